/- Walks. Conditions: none. -/
import Derived.Test.YtpbjdoplfgeliaaGreatU02
import Derived.Recover
import Derived.OrdersHeld
import Derived.Laws.Externs
import Derived.Laws.NewFold
namespace Go.SLYtpbjdoplfgeliaaGreat
open Go Go.RowKit
theorem Ep{α:Type}{f:α→aa}{n:Nat}{x:α}(h:∀ h,emp h→f x h):∀ h,emp h→aO f (List.replicate n x) h:=by
 induction n with
 | zero=>intro h e;exact e
 | succ n ih =>
  intro g e
  rw[List.replicate_succ,fL]
  have:sep emp emp g:=by rw[jW];exact e
  exact bB h ih g this
theorem aw.GD{α:Type}{H R As:List aa}{f:α→aa}{n:Nat}{x:α}(h:∀ h,emp h→f x h)(t:aw H As R):aw H (aO f (List.replicate n x)::As) R:=.conv (A:=seps []) (Ep h) (.eX .nil t)
theorem iw{α:Type}{enc:α→List Value}{k:Nat}{a:Option Addr}:∀ h,emp h→sl enc k (.slice a 0 0) ([]:List α) h:=fun _ e=>.inl ⟨⟨_,rfl⟩,rfl,e⟩
def ye(ps:List (Option Nat))(ts:List (Option bI)):Prop:=ps.length=ts.length∧(∀ (n:Nat) (t:bI),ts[n]?=some (some t)→ ∃ p,ps[n]?=some (some p))∧ ∀ n:Nat,ts[n]?=some none→ps[n]?=some none
theorem ib{ps:List (Option Nat)}{ts:List (Option bI)}:∀ h,aB ps ts h→ye ps ts:=fun h a =>
 ⟨tC a,fun _n _t e=>let ⟨p,hp,_⟩:=mL e h a;⟨p,hp⟩,fun _n e=>qC e h a⟩
theorem Er{ps:List (Option Nat)}{ts:List (Option bI)}{n p:Nat}{t:bI}(hp:ps[n]?=some (some p))(ht:ts[n]?=some (some t)):∀ h,aB ps ts h→ ∃ J,sep (arr p 0 (bn t)) J h:=fun h a=>by
 obtain⟨q,hq,a'⟩:=mL ht h a
 rw[hp] at hq
 cases hq
 exact⟨_,a'⟩
def Na(ps:List (Option Nat)):List Value :=
 [ed (ps.getD 0 none),ed (ps.getD 1 none),ed (ps.getD 2 none),ed (ps.getD 3 none),ed (ps.getD 4 none),ed (ps.getD 5 none),ed (ps.getD 6 none),ed (ps.getD 7 none),
  ed (ps.getD 8 none),ed (ps.getD 9 none),ed (ps.getD 10 none),ed (ps.getD 11 none),ed (ps.getD 12 none),ed (ps.getD 13 none),ed (ps.getD 14 none),ed (ps.getD 15 none)]
theorem GF(ps:List (Option Nat)):∀ {n:Nat} (_:n<16),(Na ps)[n]?=some (ed (ps.getD n none))
 | 0,_=>rfl
 | 1,_=>rfl
 | 2,_=>rfl
 | 3,_=>rfl
 | 4,_=>rfl
 | 5,_=>rfl
 | 6,_=>rfl
 | 7,_=>rfl
 | 8,_=>rfl
 | 9,_=>rfl
 | 10,_=>rfl
 | 11,_=>rfl
 | 12,_=>rfl
 | 13,_=>rfl
 | 14,_=>rfl
 | 15,_=>rfl
 | n+16,h=>absurd h (by omega)
section
variable{fv sv pv:Value}{p:gn}{bt:Nat}{ps:List (Option Nat)}{vm:Value}{bg:Nat}{vt:Value}{bd bw:Nat}{vr:Value}
theorem eL:∀ {n:Nat} (_:n<16),(ft fv sv pv p bt ps vm bg vt bd bw vr)[9+n]?=some (ed (ps.getD n none))
 | 0,_=>rfl
 | 1,_=>rfl
 | 2,_=>rfl
 | 3,_=>rfl
 | 4,_=>rfl
 | 5,_=>rfl
 | 6,_=>rfl
 | 7,_=>rfl
 | 8,_=>rfl
 | 9,_=>rfl
 | 10,_=>rfl
 | 11,_=>rfl
 | 12,_=>rfl
 | 13,_=>rfl
 | 14,_=>rfl
 | 15,_=>rfl
 | n+16,h=>absurd h (by omega)
theorem Es{a0 a1 a2 a3 a4 a5 a6 a7 a8 a9 a10 a11 a12 a13 a14 a15:Option Nat}(q:Option Nat):∀ {n:Nat} (_:n<16),(ft fv sv pv p bt [a0,a1,a2,a3,a4,a5,a6,a7,a8,a9,a10,a11,a12,a13,a14,a15] vm bg vt bd bw vr).set (9+n) (ed q)=ft fv sv pv p bt ([a0,a1,a2,a3,a4,a5,a6,a7,a8,a9,a10,a11,a12,a13,a14,a15].set n q) vm bg vt bd bw vr
 | 0,_=>rfl
 | 1,_=>rfl
 | 2,_=>rfl
 | 3,_=>rfl
 | 4,_=>rfl
 | 5,_=>rfl
 | 6,_=>rfl
 | 7,_=>rfl
 | 8,_=>rfl
 | 9,_=>rfl
 | 10,_=>rfl
 | 11,_=>rfl
 | 12,_=>rfl
 | 13,_=>rfl
 | 14,_=>rfl
 | 15,_=>rfl
 | n+16,h=>absurd h (by omega)
theorem zQ{n:Nat}(h:n<16)(hl:ps.length=16)(q:Option Nat):(ft fv sv pv p bt ps vm bg vt bd bw vr).set (9+n) (ed q)=ft fv sv pv p bt (ps.set n q) vm bg vt bd bw vr:=by
 match ps,hl with
 | [a0,a1,a2,a3,a4,a5,a6,a7,a8,a9,a10,a11,a12,a13,a14,a15],_=>exact Es q h
end
/-! slots -/
def ew(l:List (Bool×Int)):Int×Int×Int×List (Bool×Int) :=
 match slotFree? l 0 with
 | none=>(0,0,2,l)
 | some n=>((n:Int),et ((l.getD n (false,0)).2+1) n,0,l.set n (true,(l.getD n (false,0)).2+1))
theorem Et{l:List (Bool×Int)}{k:Nat}{o:Bool×Int}(h:l[k]?=some o)(hu:o.1=true):slotFree? (l.drop k) k=slotFree? (l.drop (k+1)) (k+1):=by rw[drop_cons h,slotFree?,if_pos hu]
theorem GG{l:List (Bool×Int)}{k:Nat}{o:Bool×Int}(h:l[k]?=some o)(hu:o.1=false):slotFree? (l.drop k) k=some k:=by rw[drop_cons h,slotFree?,if_neg (by rw[hu];simp)]
theorem GH{l:List (Bool×Int)}{k:Nat}(h:l.length≤k):slotFree? (l.drop k) k=none:=by rw[List.drop_of_length_le h];rfl
def jB(l:List (Bool×Int)):Prop:=l.length≤1024∧ ∀ o∈l,0≤o.2∧o.2<1099511627776
def nA(l:List (Bool×Int))(ps:List (Option Nat))(p:Nat):List (Option Nat):=match slotFree? l 0 with | none=>ps | some n=>ps.set n (some p)
theorem BM{l:List (Option bI)}{k:Nat}(h:l[k]?=some none):readyFrom (l.drop k) k=readyFrom (l.drop (k+1)) (k+1):=by rw[drop_cons h,readyFrom]
theorem Eu{l:List (Option bI)}{k:Nat}{t:bI}(h:l[k]?=some (some t))(hw:t.cS=0):readyFrom (l.drop k) k=(k:Int)::readyFrom (l.drop (k+1)) (k+1):=by rw[drop_cons h,readyFrom,if_pos hw]
theorem GI{l:List (Option bI)}{k:Nat}{t:bI}(h:l[k]?=some (some t))(hw:¬t.cS=0):readyFrom (l.drop k) k=readyFrom (l.drop (k+1)) (k+1):=by rw[drop_cons h,readyFrom,if_neg hw]
theorem Ew{l:List (Option bI)}{k:Nat}(h:l.length≤k):readyFrom (l.drop k) k=[]:=by rw[List.drop_of_length_le h];rfl
theorem zR{l:List (Bool×Int)}(h:(ew l).2.2.1=0):∃ n,slotFree? l 0=some n∧ew l=((n:Int),et ((l.getD n (false,0)).2+1) n,0,l.set n (true,(l.getD n (false,0)).2+1)):=by
 unfold ew at *
 cases e:slotFree? l 0 with
 | none=>rw[e] at h;cases h
 | some n=>exact⟨n,rfl,rfl⟩
theorem zS{l:List (Bool×Int)}(h:¬(ew l).2.2.1=0):slotFree? l 0=none∧ew l=(0,0,2,l):=by
 unfold ew at *
 cases e:slotFree? l 0 with
 | none=>exact⟨rfl,rfl⟩
 | some n=>rw[e] at h;exact absurd rfl h
theorem fc{s:Spc}{f arg:Int}{n:Nat}(h:slotFree? s.table 0=some n):s.begin f arg=((n:Int),0,{s with table:=s.table.set n (true,(s.table.getD n (false,0)).2+1),aF:=s.aF.set n (some (sr f arg (et ((s.table.getD n (false,0)).2+1) n))) }):=by
 unfold Spc.begin;rw[h]
theorem kH{s:Spc}{f arg:Int}(h:slotFree? s.table 0=none):s.begin f arg=(0,2,s):=by unfold Spc.begin;rw[h]
theorem GJ{ps:List (Option Nat)}{ts:List (Option bI)}{n p:Nat}{t:bI}(h:ts[n]?=some none):∀ g,seps [arr p 0 (bn t),aB ps ts] g→aB (ps.set n (some p)) (ts.set n (some t)) g:=fun g a=>pw h g (by simpa only[seps,aK] using a)
def Dg(ts:List (Option bI))(k:Nat):Int:=match ts[k]? with | some (some t)=>t.cS | _=>0
theorem BN{ts:List (Option bI)}{k:Nat}{t:bI}(h:ts[k]?=some (some t)):t.cS=Dg ts k:=by unfold Dg;rw[h]
theorem wj{ps:List (Option Nat)}{ts:List (Option bI)}(hs:ye ps ts){k:Nat}(hk:k<ts.length){g:Nat→Addr}(h:((ps.getD k none).map g).isNone=false):∃ p t,ps[k]?=some (some p)∧ts[k]?=some (some t):=by
 obtain⟨x,hx⟩:=ai hk
 cases x with
 | none=>have:=hs.2.2 k hx;rw[List.getD_eq_getElem?_getD,this] at h;cases h
 | some t=>obtain⟨p,hp⟩:=hs.2.1 k t hx;exact⟨p,t,hp,hx⟩
theorem aP{α:Type}{l:List α}{k:Nat}{x d:α}(h:l[k]?=some x):l.getD k d=x:=by rw[List.getD_eq_getElem?_getD,h];rfl
theorem JI{ps:List (Option Nat)}{ts:List (Option bI)}(hs:ye ps ts){k:Nat}(hk:k<ts.length){g:Nat→Addr}(h:((ps.getD k none).map g).isNone=false∧Dg ts k=0):readyFrom (ts.drop k) k=(k:Int)::readyFrom (ts.drop (k+1)) (k+1):=by
 obtain⟨p,t,hp,ht⟩:=wj hs hk h.1
 exact Eu ht ((BN ht).trans h.2)
theorem LN{ps:List (Option Nat)}{ts:List (Option bI)}(hs:ye ps ts){k:Nat}(hk:k<ts.length){g:Nat→Addr}(h:((ps.getD k none).map g).isNone=true∨¬Dg ts k=0):readyFrom (ts.drop k) k=readyFrom (ts.drop (k+1)) (k+1):=by
 obtain⟨x,hx⟩:=ai hk
 cases x with
 | none=>exact BM hx
 | some t =>
  obtain⟨p,hp⟩:=hs.2.1 k t hx
  rcases h with h | h
  ·rw[aP hp] at h;cases h
  ·exact GI hx (fun e=>h (by rw[← BN hx];exact e))
theorem ic:∀ (l:List (Option bI)) (k:Nat),(readyFrom l k).length≤l.length
 | [],_=>Nat.le_refl _
 | none::l,k=>Nat.le_succ_of_le (ic l (k+1))
 | some t::l,k=>by
  rw[readyFrom]
  split
  ·simpa using ic l (k+1)
  ·exact Nat.le_succ_of_le (ic l (k+1))
theorem BO{l:List Int}{k:Nat}{n:Int}(h:(l.take 4)[k]?=some n):((l.take 4).take (k+1)).map (fun n=>((Value.slice none 0 0:Value),(⟨[],aN n 1048576⟩:k6)))=((l.take 4).take k).map (fun n=>((Value.slice none 0 0:Value),(⟨[],aN n 1048576⟩:k6)))++[(Value.slice none 0 0,⟨[],aN n 1048576⟩)]:=by
 rw[aW h,List.map_append];rfl
theorem vN{α β:Type}{f:β→aa}{g:α→β}{l:List α}(h:∀ x h,emp h→f (g x) h):∀ h,emp h→aO f (l.map g) h:=by
 induction l with
 | nil=>intro h e;exact e
 | cons x l ih =>
  intro k e
  rw[List.map_cons,fL]
  have:sep emp emp k:=by rw[jW];exact e
  exact bB (h x) ih k this
theorem aw.allM{α β:Type}{H R As:List aa}{f:β→aa}{g:α→β}{l:List α}(h:∀ x h,emp h→f (g x) h)(t:aw H As R):aw H (aO f (l.map g)::As) R:=.conv (A:=seps []) (vN h) (.eX .nil t)
@[irreducible] def optH (f:Nat→aa) (o:Option Nat):aa:=match o with
 | none=>emp
 | some b=>f b
theorem aw.JJ{H R As:List aa}{f:Nat→aa}(t:aw H As R):aw H (optH f none::As) R:=.conv (A:=seps []) (fun _ e=>by unfold optH;exact e) (.eX .nil t)
theorem aw.JK{H R As:List aa}{f:Nat→aa}{b:Nat}(t:aw H (f b::As) R):aw H (optH f (some b)::As) R:=.conv (A:=f b) (fun _ e=>by unfold optH;exact e) t
theorem iJ{f:Nat→aa}{b:Nat}:∀ h,optH f (some b) h→seps [f b] h:=fun h a=>by unfold optH at a;simpa only[seps,aK] using a
theorem aw.sr{H R As:List aa}(t:aw H As R):aw H (aB (List.replicate 16 none) (List.replicate 16 none)::As) R:=.conv (A:=seps []) (fun _ e=>e) (.eX .nil t)
theorem tG{p:gn}(h:dD p=0):gw p=true:=by
 unfold dD at h
 by_cases hc:gw p=true
 ·exact hc
 ·rw[if_neg hc] at h;cases h
theorem JL{W:World}{H:List aa}{A:aa}{v:bc}(hp:eY W [A] v)(ha:At H A):∀ w,Sat W w (seps H)→ ∀ y∈v.fs, ∀ c∈eu y,c.oneCell'=true:=fun w s y hy c hc=>by
 simp only[eu,List.mem_cons,List.not_mem_nil,or_false] at hc
 subst hc
 exact((hp.ins y hy).at ha).one w s
def yf(p:gn):Spc:=⟨p,List.replicate 16 (false,0),List.replicate 16 none,List.replicate p.words.toNat 0,Gates.new p.bx p.conds p.bK,p.bf.map Tub.new,lj.new p.blocks,mu.new,[]⟩
theorem Ex(p:gn):jB (yf p).table:=⟨by show(List.replicate 16 (false,(0:Int))).length≤1024;simp,fun o ho=>by rw[List.eq_of_mem_replicate ho];simp⟩
theorem Ey(p:gn):∀ n,slotFree? (yf p).table 0=some n→(yf p).aF[n]?=some none:=fun n h=>by
 have:n=0:=by simpa [yf,slotFree?] using h.symm
 subst this;rfl
theorem LO(p:gn):Spc.new p=((yf p).begin 0 0).2.2:=rfl
theorem JM{α:Type}{cl fs:List α}{k:Nat}{x y:α}(hl:cl.length=k)(hx:fs[k]?=some x):(cl++fs.drop k).set k y=(cl++[y])++fs.drop (k+1):=by
 subst hl
 rw[drop_cons hx,List.set_append_right _ _ (Nat.le_refl _)]
 simp
theorem GK{α:Type}{cl fs:List α}{k:Nat}{x:α}(hl:cl.length=k)(hx:fs[k]?=some x):(cl++fs.drop k)[k]?=some x:=by
 subst hl
 rw[drop_cons hx,List.getElem?_append_right (Nat.le_refl _)]
 simp
theorem Rd.isSl{W:World}{H:List aa}{α:Type}{enc:α→List Value}{k:Nat}{v:Value}{xs:List α}(h:Rd W H enc k v xs):∀ w,Sat W w (seps H)→isSl v=true:=fun w s=>by
 obtain⟨⟨a,cap,hv,_⟩,_⟩:=h w s
 rw[hv];rfl
theorem GL{l:List Ev}{k:Nat}{e:Ev}(h:l[k]?=some e)(hb:dE e=true∨0<e.mode):cV (l.take (k+1))=cV (l.take k)++[e]:=by
 rw[aW h];unfold cV;rw[List.filter_append]
 congr 1
 rw[List.filter_cons,if_pos (by simpa using hb)];rfl
theorem JN{l:List Ev}{k:Nat}{e:Ev}(h:l[k]?=some e)(hb:dE e=false∧¬ 0<e.mode):cV (l.take (k+1))=cV (l.take k):=by
 rw[aW h];unfold cV;rw[List.filter_append]
 have:(dE e || decide (0<e.mode))=false:=by rw[hb.1];simpa using hb.2
 simp[this]
theorem kI(l:List Ev):(cV l).length≤l.length:=List.length_filter_le _ _
theorem Ez(l:List Ev)(k:Nat):(cV (l.take k)).length≤k:=Nat.le_trans (kI _) (by rw[List.length_take];omega)
def mO(v:aH):Int:=if v.runs=true then v.ab else 0
def Nb(e:Ev):Int:=if dE e=true then e.ab else 0
theorem nB(v:aH):v.strip.length≤v.evs.length+1:=by
 unfold aH.strip
 have:=kI v.evs
 rw[List.length_append]
 split
 ·simp;omega
 ·split <;> simp <;> omega
theorem zT{l:List Int}{k:Nat}{n:Int}(h:l[k]?=some n):aG (l.take (k+1))=aG (l.take k)++[⟨3,n,0⟩]:=by unfold aG;rw[aW h,List.map_append];rfl
/-! a library -/
def gN(l:Lib)(p:Int):Bool:=decide (0≤p) && decide (p<(l.vs.length:Int))
def cW(vs:List aH)(p:Int):Int:=(vs.getD p.toNat aH.z).mode
theorem lB(l:Lib)(p:Int):l.has p=(gN l p && decide (cW l.vs p≠0)):=by
 unfold Lib.has gN cW aL
 by_cases h:p<0
 ·simp[h];omega
 ·rw[if_neg h]
  by_cases h2:p.toNat<l.vs.length
  ·have e:l.vs[p.toNat]?=some l.vs[p.toNat]:=by simp[h2]
   have d1:decide (0≤p)=true:=decide_eq_true (by omega)
   have d2:decide (p<(l.vs.length:Int))=true:=decide_eq_true (by omega)
   rw[e,aP e,d1,d2];simp
  ·have e:l.vs[p.toNat]?=none:=by simp;omega
   have d2:decide (p<(l.vs.length:Int))=false:=decide_eq_false (by omega)
   rw[e,d2];simp
theorem au{α β:Type}{f:α→β}{xs:List α}{ys:List β}(h:xs.map f=ys):xs.length=ys.length:=by rw[← h,List.length_map]
theorem eU{α β:Type}{f:α→β}{xs:List α}{ys:List β}(h:xs.map f=ys){i:Nat}{x:α}(hx:xs[i]?=some x):ys[i]?=some (f x):=by rw[← h,List.getElem?_map,hx];rfl
theorem lC{vs:List aH}{i:Nat}{v:aH}(h:vs[i]?=some v):v.mode=cW vs (i:Int):=by unfold cW;rw[Int.toNat_natCast,aP h]
theorem EA{l:Lib}{k:Nat}(hk:k<l.vs.length)(h:l.has (k:Int)=true):procsFrom (l.vs.drop k) k=(k:Int)::procsFrom (l.vs.drop (k+1)) (k+1):=by
 obtain⟨v,hv⟩:=ai hk
 rw[lB,Bool.and_eq_true,decide_eq_true_eq, ← lC hv] at h
 rw[drop_cons hv,procsFrom,if_neg h.2]
theorem GM{l:Lib}{k:Nat}(hk:k<l.vs.length)(h:l.has (k:Int)=false):procsFrom (l.vs.drop k) k=procsFrom (l.vs.drop (k+1)) (k+1):=by
 obtain⟨v,hv⟩:=ai hk
 have e:gN l (k:Int)=true:=by unfold gN;simp[hk]
 rw[lB,e,Bool.true_and,decide_eq_false_iff_not, ← lC hv] at h
 rw[drop_cons hv,procsFrom,if_pos (Decidable.of_not_not h)]
theorem EB{vs:List aH}{k:Nat}(h:vs.length≤k):procsFrom (vs.drop k) k=[]:=by rw[List.drop_of_length_le h];rfl
theorem qJ:∀ (vs:List aH) (k:Nat) (p:Int),p∈procsFrom vs k→ ∃ i v,p=((k+i:Nat):Int)∧vs[i]?=some v∧v.mode≠0
 | [],k,p,h=>by cases h
 | v::vs,k,p,h=>by
  rw[procsFrom] at h
  split at h
  ·obtain⟨i,u,e,hu,hm⟩:=qJ vs (k+1) p h
   exact⟨i+1,u,by rw[e];congr 1;omega,by simpa using hu,hm⟩
  ·rename_i hm
   rcases List.mem_cons.1 h with h | h
   ·exact⟨0,v,h,rfl,hm⟩
   ·obtain⟨i,u,e,hu,hm⟩:=qJ vs (k+1) p h
    exact⟨i+1,u,by rw[e];congr 1;omega,by simpa using hu,hm⟩
theorem ig{l:Lib}{p:Int}{r:List Int}(h:l.procs=p::r):∃ (i:Nat) (v:aH),p=(i:Int)∧l.vs[i]?=some v∧v.mode≠0:=by
 obtain⟨i,v,e,hv,hm⟩:=qJ l.vs 0 p (by show p∈l.procs;rw[h];exact List.mem_cons_self ..)
 exact⟨i,v,by rw[e];congr 1;omega,hv,hm⟩
theorem jl:∀ (vs:List aH) (k:Nat),(procsFrom vs k).length≤vs.length
 | [],_=>Nat.le_refl _
 | v::vs,k=>by
  rw[procsFrom]
  split
  ·exact Nat.le_succ_of_le (jl vs (k+1))
  ·simpa using jl vs (k+1)
end Go.SLYtpbjdoplfgeliaaGreat
namespace Go.SLYtpbjdoplfgeliaaGreat
open Go Go.RowKit
theorem At.auto{H:List aa}{A:aa}(t:At H A:=by repeat (first | exact At.here | refine At.there ?_)):At H A:=t
theorem Take.auto{H R:List aa}{A:aa}(t:Take H A R:=by repeat (first | exact Take.here | apply Take.there)):Take H A R:=t
theorem gk.auto{H H':List aa}{A B:aa}(t:gk H A B H':=by repeat (first | exact gk.here | apply gk.there)):gk H A B H':=t
theorem Bu.auto{ks:List Nat}{L L':List (Nat×Option Value)}(t:Bu ks L L':=by repeat (first | exact Bu.base | refine Bu.cons rfl ?_)):Bu ks L L':=t
theorem Kept.auto{W:World}{H K:List aa}(t:Kept H K:=by repeat (first | exact Kept.nil | exact Take.here | apply Take.there | apply Kept.take)):∀ w,Sat W w (seps H)→Sat W w (seps K):=Kept.ok t
theorem aw.auto{H As R:List aa}(t:aw H As R:=by repeat (first | exact aw.nil | (apply aw.cons; · repeat (first | exact Take.here | apply Take.there)) | apply aw.JJ | apply aw.JK | apply aw.void | apply aw.JH | apply aw.two | (apply aw.GD; · exact iw) | (apply aw.allM; · exact fun _=>iw) | apply aw.f1 rfl | apply aw.f2 rfl | apply aw.f3 rfl | apply aw.f4 rfl | apply aw.f10 rfl | apply aw.eX | assumption | exact trivial | rfl | omega)):aw H As R:=t
end Go.SLYtpbjdoplfgeliaaGreat
namespace Go.SLYtpbjdoplfgeliaaGreat
open Go Go.RowKit
theorem cc{α:Type}{f:α→aa}{xs:List α}{i:Nat}{x:α}(h:xs[i]?=some x):∀ g,aO f xs g→seps [f x,aO f (xs.eraseIdx i)] g:=fun g a=>by
 rw[jx f h] at a;simpa only[seps,aK] using a
theorem lD{α:Type}{f:α→aa}{xs:List α}{i:Nat}{x:α}(y:α)(h:xs[i]?=some x):∀ g,seps [f y,aO f (xs.eraseIdx i)] g→aO f (xs.set i y) g:=fun g a=>by
 rw[jy f y (List.getElem?_eq_some_iff.1 h).1];simpa only[seps,aK] using a
theorem cC{α:Type}{f:α→aa}{xs:List α}{i:Nat}{x:α}(h:xs[i]?=some x):∀ g,seps [f x,aO f (xs.eraseIdx i)] g→aO f xs g:=fun g a=>by
 rw[jx f h];simpa only[seps,aK] using a
theorem di{α β:Type}{f:α→β}{xs:List α}{ys:List β}(h:xs.map f=ys){i:Nat}{y:β}(hy:ys[i]?=some y):∃ x,xs[i]?=some x∧f x=y:=by
 rw[← h,List.getElem?_map] at hy
 cases e:xs[i]? with
 | none=>rw[e] at hy;cases hy
 | some x=>rw[e] at hy;exact⟨x,rfl,by simpa using hy⟩
theorem map_set{α β:Type}{f:α→β}{xs:List α}{ys:List β}(h:xs.map f=ys)(i:Nat)(y:α):(xs.set i y).map f=ys.set i (f y):=by rw[List.map_set,h]
theorem lE{u:Value}{x:aH}(h:isSl u=true):(eZ (u,x)).all (·.oneCell')=true:=by
 have:=gb h
 show(true && (true && (u.oneCell' && true)))=true
 rw[this];rfl
theorem lF{l:Lib}{p:Int}(h:gN l p=true):∃ (i:Nat) (v:aH),p=(i:Int)∧l.vs[i]?=some v:=by
 unfold gN at h
 simp only[Bool.and_eq_true,decide_eq_true_eq] at h
 obtain⟨v,hv⟩:=ai (show p.toNat<l.vs.length by omega)
 exact⟨p.toNat,v,by omega,hv⟩
theorem qK{l:Lib}{p:Int}(h:l.has p=true):gN l p=true:=by
 rw[lB,Bool.and_eq_true] at h;exact h.1
theorem kJ{l:Lib}{p:Int}(h:gN l p=false∨l.has p=true):l.dq p=(false,l):=by
 unfold Lib.dq
 rcases h with h | h
 ·have:aL l.vs p=none:=by
   unfold gN at h
   unfold aL
   split
   ·rfl
   ·simp only[Bool.and_eq_false_iff,decide_eq_false_iff_not] at h
    simp;omega
  rw[this]
 ·obtain⟨i,v,rfl,hv⟩:=lF (qK h)
  have e:aL l.vs (i:Int)=some v:=by unfold aL;rw[if_neg (by omega),Int.toNat_natCast,hv]
  rw[lB,Bool.and_eq_true,decide_eq_true_eq, ← lC hv] at h
  rw[e];simp only;rw[if_neg h.2]
theorem nC{l:Lib}{p:Int}(h1:gN l p=true)(h:l.has p=false):∃ (i:Nat) (v:aH),p=(i:Int)∧l.vs[i]?=some v∧l.dq p=(true,{l with vs:=l.vs.set i (aH.new (⟨1, -1,0⟩::l.waiting)),waiting:=[] }):=by
 obtain⟨i,v,rfl,hv⟩:=lF h1
 refine⟨i,v,rfl,hv,?_⟩
 have e:aL l.vs (i:Int)=some v:=by unfold aL;rw[if_neg (by omega),Int.toNat_natCast,hv]
 rw[lB,h1,Bool.true_and,decide_eq_false_iff_not, ← lC hv,Decidable.not_not] at h
 unfold Lib.dq;rw[e];simp only;rw[if_pos h];rfl
theorem jC(l:Lib):l.tell []=l:=by unfold Lib.tell;rw[if_pos rfl]
theorem jm{l:Lib}{ys:List Ev}(h:ys≠[])(hp:l.procs=[]):l.tell ys = {l with waiting:=l.waiting++ys }:=by unfold Lib.tell;rw[if_neg h,hp]
theorem jo{l:Lib}{ys:List Ev}(h:ys≠[]){i:Nat}{v:aH}{r:List Int}(hp:l.procs=(i:Int)::r)(hv:l.vs[i]?=some v):l.tell ys = {l with vs:=l.vs.set i (v.told ys) }:=by
 unfold Lib.tell;rw[if_neg h,hp];simp only[Int.toNat_natCast];rw[aP hv]
theorem jq{l:Lib}{p:Int}(h:l.has p=false):l.cI p=(false,l):=by unfold Lib.cI;rw[if_neg (by rw[h];simp)]
theorem ij{l:Lib}{i:Nat}{v:aH}(h:l.has (i:Int)=true)(hv:l.vs[i]?=some v):l.cI (i:Int)=(true,({l with vs:=l.vs.set i aH.z }:Lib).tell v.strip):=by
 unfold Lib.cI;rw[if_pos h];simp only[Int.toNat_natCast];rw[aP hv]
/-! processors -/
def ba(b:Nat)(bl:List Nat)(k:Krn):aa:=zF (fun _ _ (xs:List (Nat×Lib))=>xs.map (·.1)=bl∧xs.map (·.2)=k.libs) fun vo vl xs=>[arr b 0 [vo,vl],sl aq 1 vo k.owner,sl cP 1 vl xs,aO (fun x=>bJ x.1 x.2) xs]
def tH(b:Nat)(k:Krn):aa:=jd (fun _=>True) fun bl=>[ba b bl k]
theorem Dh{W:World}{H:List aa}{A:aa}{v:bc}(hp:eY W [A] v)(ha:At H A):∀ w,Sat W w (seps H)→(eT v).all (·.oneCell')=true:=fun w s=>by
 have h1:=gb ((hp.fs.at ha).isSl w s)
 have h2:=gb ((hp.bK.at ha).isSl w s)
 have h3:=gb ((hp.bf.at ha).isSl w s)
 show(v.fv.oneCell' && (true && (true && (true && (v.sv.oneCell' && (v.pv.oneCell' && (true && (true && true))))))))=true
 rw[h1,h2,h3];rfl
def fU(l:Lib):Nat:=l.waiting.length+(l.vs.map (fun v=>v.evs.length)).sum
structure LP(m:Nat)(l:Lib):Prop where
 ev:fU l≤m
 vl:l.vs.length≤64
 th:l.aI.aF.length=16
structure o0(m:Nat)(k:Krn):Prop where
 own:∀ v∈k.owner,v = -1∨(0≤v∧v<(k.libs.length:Int))
 ol:k.owner.length≤64
 ll:k.libs.length≤8
 gy:∀ l∈k.libs,LP m l
def fo(k:Krn)(p:Int):Bool:=decide (0≤p) && decide (p<(k.owner.length:Int))
def Di(o:List Int)(p:Int):Int:=o.getD p.toNat 0
theorem jr{k:Krn}{p:Int}(h:fo k p=true):∃ (i:Nat) (o:Int),p=(i:Int)∧k.owner[i]?=some o:=by
 unfold fo at h
 simp only[Bool.and_eq_true,decide_eq_true_eq] at h
 obtain⟨v,hv⟩:=ai (show p.toNat<k.owner.length by omega)
 exact⟨p.toNat,v,by omega,hv⟩
theorem tI{k:Krn}{p:Int}(h:fo k p=false):aL k.owner p=none:=by
 unfold fo at h
 unfold aL
 split
 ·rfl
 ·simp only[Bool.and_eq_false_iff,decide_eq_false_iff_not] at h
  simp;omega
theorem aV{α:Type}(l:List α)(i:Nat):aL l (i:Int)=l[i]?:=by unfold aL;rw[if_neg (by omega),Int.toNat_natCast]
theorem yh{o:List Int}{i:Nat}{v:Int}(h:o[i]?=some v):v=Di o (i:Int):=by unfold Di;rw[Int.toNat_natCast,aP h]
theorem tK{k:Krn}{p:Int}(h:fo k p=false∨Di k.owner p = -1):k.ownerOf p=(0,false):=by
 unfold Krn.ownerOf
 by_cases ht:fo k p=true
 ·obtain⟨i,o,rfl,ho⟩:=jr ht
  rw[aV,ho]
  simp only
  rw[if_pos]
  rcases h with h | h
  ·rw[ht] at h;cases h
  ·rw[yh ho];exact h
 ·rw[tI (by simpa using ht)]
theorem qL{k:Krn}{i:Nat}{o:Int}(h:k.owner[i]?=some o)(hn:o≠ -1):k.ownerOf (i:Int)=(o,true):=by
 unfold Krn.ownerOf;rw[aV,h];simp only;rw[if_neg hn]
theorem GN{o:List Int}{k:Nat}{v:Int}(h:o[k]?=some v)(hv:v = -1):freeFrom (o.drop k) k=(k:Int)::freeFrom (o.drop (k+1)) (k+1):=by rw[drop_cons h,freeFrom,if_pos hv]
theorem JO{o:List Int}{k:Nat}{v:Int}(h:o[k]?=some v)(hv:¬v = -1):freeFrom (o.drop k) k=freeFrom (o.drop (k+1)) (k+1):=by rw[drop_cons h,freeFrom,if_neg hv]
theorem GO{o:List Int}{k:Nat}(h:o.length≤k):freeFrom (o.drop k) k=[]:=by rw[List.drop_of_length_le h];rfl
theorem GP{k:Krn}{n:Nat}{l:Lib}(h:k.libs[n]?=some l):k.demand.take (n+1)=k.demand.take n++[(l.aI.ready.length:Int)]:=by
 refine aW ?_
 unfold Krn.demand;rw[List.getElem?_map,h];rfl
def dx(k:Krn)(p:Int):Int:=match aL k.owner p with | none=>1 | some o=>if o = -1 then 11 else 0
def tL(bl:List Nat)(k:Krn)(p:Int):Option Nat:=match aL k.owner p with | none=>none | some o=>if o = -1 then none else bl[o.toNat]?
theorem wm{k:Krn}{bl:List Nat}{p:Int}(h:fo k p=false):dx k p=1∧tL bl k p=none:=by
 unfold dx tL;rw[tI h];exact⟨rfl,rfl⟩
theorem wq{k:Krn}{bl:List Nat}{p:Int}(ht:fo k p=true)(h:(k.ownerOf p).2=false):dx k p=11∧tL bl k p=none:=by
 obtain⟨i,o,rfl,ho⟩:=jr ht
 unfold Krn.ownerOf at h
 unfold dx tL
 rw[aV,ho] at *
 simp only at *
 by_cases e:o = -1
 ·rw[if_pos e,if_pos e];exact⟨rfl,rfl⟩
 ·rw[if_neg e] at h;cases h
theorem GQ{k:Krn}{p:Int}(ht:fo k p=true)(h:(k.ownerOf p).2=true):∃ (i:Nat) (o:Int),p=(i:Int)∧k.owner[i]?=some o∧o≠ -1∧k.ownerOf p=(o,true):=by
 obtain⟨i,o,rfl,ho⟩:=jr ht
 by_cases e:o = -1
 ·subst e;rw[tK (.inr (yh ho).symm)] at h;cases h
 ·exact⟨i,o,rfl,ho,e,qL ho e⟩
theorem o0.nat{m:Nat}{k:Krn}(h:o0 m k){i:Nat}{o:Int}(ho:k.owner[i]?=some o)(hn:o≠ -1):∃ (n:Nat) (l:Lib),o=(n:Int)∧k.libs[n]?=some l:=by
 rcases h.own o (List.mem_of_getElem? ho) with e | ⟨h0,h1⟩
 ·exact absurd e hn
 ·obtain⟨l,hl⟩:=ai (show o.toNat<k.libs.length by omega)
  exact⟨o.toNat,l,by omega,hl⟩
theorem jD{k:Krn}{bl:List Nat}{i n:Nat}(ho:k.owner[i]?=some (n:Int)):dx k (i:Int)=0∧tL bl k (i:Int)=bl[n]?:=by
 unfold dx tL;rw[aV,ho];simp only;rw[if_neg (by omega),if_neg (by omega),Int.toNat_natCast];exact⟨rfl,rfl⟩
theorem dz{m:Nat}{k:Krn}(hk:o0 m k){p:Int}(h:dx k p=0):∃ (i n:Nat) (l:Lib),p=(i:Int)∧k.owner[i]?=some (n:Int)∧k.libs[n]?=some l∧k.take p=(0,⟨k.owner.set i (-1),k.libs.set n (l.cI (i:Int)).2⟩):=by
 unfold dx at h
 cases e:aL k.owner p with
 | none=>rw[e] at h;cases h
 | some o =>
  rw[e] at h
  simp only at h
  by_cases eo:o = -1
  ·rw[if_pos eo] at h;cases h
  ·have hp:0≤p:=by
    unfold aL at e
    split at e
    ·cases e
    ·omega
   obtain⟨i,rfl⟩:∃ i:Nat,p=(i:Int):=⟨p.toNat,by omega⟩
   rw[aV] at e
   obtain⟨n,l,rfl,hl⟩:=hk.nat e eo
   refine⟨i,n,l,rfl,e,hl,?_⟩
   unfold Krn.take;rw[aV,e];simp only;rw[if_neg eo];simp only[Int.toNat_natCast];rw[aP hl]
theorem jE{k:Krn}{p:Int}(h:¬dx k p=0):k.take p=(dx k p,k):=by
 unfold dx Krn.take at *
 cases e:aL k.owner p with
 | none=>rfl
 | some o =>
  rw[e] at h
  simp only at h ⊢
  by_cases eo:o = -1
  ·rw[if_pos eo,if_pos eo]
  ·rw[if_neg eo] at h;exact absurd rfl h
theorem EC{k:Krn}{p n:Int}(h:fo k p=false∨aL k.libs n=none):k.dV p n=(1,k):=by
 unfold Krn.dV
 rcases h with h | h
 ·rw[tI h]
 ·rw[h];cases aL k.owner p <;> rfl
theorem BP{k:Krn}{i:Nat}{o n:Int}{l:Lib}(ho:k.owner[i]?=some o)(hl:aL k.libs n=some l)(h:o≠ -1):k.dV (i:Int) n=(4,k):=by
 unfold Krn.dV;rw[aV,ho,hl];simp only;rw[if_neg h]
theorem kK{k:Krn}{i n:Nat}{l:Lib}(ho:k.owner[i]?=some (-1))(hl:k.libs[n]?=some l):k.dV (i:Int) (n:Int)=(0,⟨k.owner.set i (n:Int),k.libs.set n (l.dq (i:Int)).2⟩):=by
 unfold Krn.dV;rw[aV,aV,ho,hl];simp only[if_true,Int.toNat_natCast]
theorem LQ{k:Krn}{bl:List Nat}{n:Int}(hb:bl.length=k.libs.length)(h:n<0∨(k.libs.length:Int)≤n):aL bl n=none∧aL k.libs n=none:=by
 unfold aL
 by_cases h0:n<0
 ·rw[if_pos h0,if_pos h0];exact⟨rfl,rfl⟩
 ·rw[if_neg h0,if_neg h0];constructor <;> · simp;omega
theorem cX{xs:List (Nat×Lib)}{bl:List Nat}{ls:List Lib}(hb:xs.map (·.1)=bl)(hl:xs.map (·.2)=ls){n:Nat}{l:Lib}(h:ls[n]?=some l):∃ x,xs[n]?=some x∧x.2=l∧bl[n]?=some x.1:=by
 obtain⟨x,hx,e⟩:=di hl h
 exact⟨x,hx,e,eU hb hx⟩
theorem nD{xs:List (Nat×Lib)}{bl:List Nat}{ls:List Lib}(hb:xs.map (·.1)=bl)(hl:xs.map (·.2)=ls){n:Nat}{x:Nat×Lib}(h:xs[n]?=some x)(l:Lib):(xs.set n (x.1,l)).map (·.1)=bl∧(xs.set n (x.1,l)).map (·.2)=ls.set n l:=by
 refine⟨?_,map_set hl n _⟩
 rw[map_set hb n (x.1,l)]
 refine List.ext_getElem? fun i=>?_
 by_cases e:n=i
 ·subst e
  have:=eU hb h
  rw[List.getElem?_set_self (List.getElem?_eq_some_iff.1 this).1,this]
 ·rw[List.getElem?_set_ne e]
theorem mP{xs:List (Nat×Lib)}{bl:List Nat}{ls:List Lib}(hb:xs.map (·.1)=bl)(hl:xs.map (·.2)=ls):bl.length=ls.length:=by rw[← hb, ← hl,List.length_map,List.length_map]
theorem BQ{k:Krn}{bl:List Nat}{p n:Int}{g:Nat→Addr}(hb:bl.length=k.libs.length)(h:fo k p=false∨((aL bl n).map g).isNone=true):k.dV p n=(1,k):=by
 refine EC (h.imp id fun h=>?_)
 cases e:aL bl n with
 | some x=>rw[e] at h;cases h
 | none =>
  unfold aL at *
  split at e
  ·rename_i h0;rw[if_pos h0]
  ·rename_i h0;rw[if_neg h0];simp at e ⊢;omega
theorem ED{k:Krn}{bl:List Nat}{xs:List (Nat×Lib)}{p n:Int}{g:Nat→Addr}(hb:xs.map (·.1)=bl)(hl:xs.map (·.2)=k.libs)(h:fo k p=true∧((aL bl n).map g).isNone=false):∃ (i j:Nat) (o:Int) (x:Nat×Lib),p=(i:Int)∧n=(j:Int)∧k.owner[i]?=some o∧xs[j]?=some x∧k.libs[j]?=some x.2∧aL bl (j:Int)=some x.1:=by
 obtain⟨i,o,rfl,ho⟩:=jr h.1
 have h2:=h.2
 cases e:aL bl n with
 | none=>rw[e] at h2;cases h2
 | some b =>
  have hn:0≤n:=by
   unfold aL at e
   split at e
   ·cases e
   ·omega
  obtain⟨j,rfl⟩:∃ j:Nat,n=(j:Int):=⟨n.toNat,by omega⟩
  rw[aV] at e
  obtain⟨x,hx,rfl⟩:=di hb e
  exact⟨i,j,o,x,rfl,rfl,ho,hx,eU hl hx,by rw[aV,e]⟩
theorem qM{α:Type}{v:Value}{xs ys:List (Nat×α)}(h:xs.map (·.1)=ys.map (·.1)):∀ g,seps [sl cP 1 v xs] g→sl cP 1 v ys g:=fun g a=>by
 have hl:xs.length=ys.length:=by have:=congrArg List.length h;simpa using this
 have hr:∀ zs:List (Nat×α),rows cP zs=(zs.map (·.1)).map ptr:=fun zs=>by
  unfold rows
  induction zs with
  | nil=>rfl
  | cons z zs ih=>simp only[List.flatMap_cons,List.map_cons,ih];rfl
 have a':sl cP 1 v xs g:=by simpa only[seps,aK] using a
 rcases a' with ⟨e,h0,he⟩ | ⟨b,cap,sp,hv,hc,hk,hs,ha⟩
 ·subst h0
  exact .inl ⟨e,List.eq_nil_of_length_eq_zero hl.symm,he⟩
 ·exact .inr ⟨b,cap,sp,by rw[← hl];exact hv,by rw[← hl];exact hc,fun _ _=>rfl,by rw[← hl];exact hs,by rw[hr ys, ← h, ← hr xs];exact ha⟩
theorem zU{l:List Nat}{n:Nat}(h:n∈l):n≤l.sum:=by
 induction l with
 | nil=>cases h
 | cons x l ih =>
  rw[List.sum_cons]
  rcases List.mem_cons.1 h with h | h
  ·omega
  ·have:=ih h;omega
theorem LP.w{m:Nat}{l:Lib}(h:LP m l):l.waiting.length≤m:=by have:=h.ev;unfold fU at this;omega
theorem LP.e{m:Nat}{l:Lib}(h:LP m l):∀ v∈l.vs,v.evs.length≤m:=fun v hv=>by
 have:=h.ev;unfold fU at this
 have:=zU (List.mem_map_of_mem (f:=fun v:aH=>v.evs.length) hv)
 omega
end Go.SLYtpbjdoplfgeliaaGreat
namespace Go.SLYtpbjdoplfgeliaaGreat
open Go Go.RowKit
structure vJ(d:Deal):Prop where
 left:0≤d.left∧d.left≤64
 pl:d.prio.length=d.demand.length
 ol:d.out.length=d.demand.length
 dm:∀ z∈d.demand,z≤1000000
 om:∀ y∈d.out,0≤y
 dl:d.demand.length≤8
theorem kL{d:Deal}{p:Int}{n:Nat}(h:0<d.left∧d.hD n p=true):d.step p n=({d with out:=d.out.set n (d.out.getD n 0+1),left:=d.left-1 },true):=by unfold Deal.step;rw[if_pos h]
theorem j6{d:Deal}{p:Int}{n:Nat}(h:¬(0<d.left∧d.hD n p=true)):d.step p n=(d,false):=by unfold Deal.step;rw[if_neg h]
theorem yi{d:Deal}(h:vJ d)(p:Int)(n:Nat):vJ (d.step p n).1:=by
 by_cases c:0<d.left∧d.hD n p=true
 ·rw[kL c]
  refine⟨by show 0≤d.left-1∧d.left-1≤64;have:=h.left;omega,h.pl,by show(d.out.set _ _).length=_;rw[List.length_set];exact h.ol,h.dm,fun y hy=>?_,h.dl⟩
  rcases List.mem_or_eq_of_mem_set hy with e | e
  ·exact h.om y e
  ·subst e
   rw[List.getD_eq_getElem?_getD]
   cases e:d.out[n]? with
   | none=>simp
   | some x=>have:=h.om x (List.mem_of_getElem? e);simp;omega
 ·rw[j6 c];exact h
theorem Dj{p:Int}{f m k:Nat}{d d':Deal}{any:Bool}{r:Deal×Bool}(h:r=Deal.go p f m k d any)(hk:k<d.demand.length)(hm:m=d.demand.length-k){n:Nat}(hn:n=(f+k) % d.demand.length){t:Bool}(hs:d.step p n=(d',t)):r=Deal.go p f (d.demand.length-(k+1)) (k+1) d' (any || t):=by
 obtain⟨j,rfl⟩:∃ j,m=j+1:=⟨m - 1,by omega⟩
 rw[h,Deal.go, ← hn,hs,show j=d.demand.length-(k+1) from by omega]
theorem tM(p:Int)(f:Nat):∀ (m k:Nat) (d:Deal) (any:Bool),(Deal.go p f m k d any).1.left≤d.left∧(0≤d.left→0≤(Deal.go p f m k d any).1.left)∧((Deal.go p f m k d any).2=true→any=true∨(Deal.go p f m k d any).1.left<d.left)∧(Deal.go p f m k d any).1.demand=d.demand∧(Deal.go p f m k d any).1.prio=d.prio∧(vJ d→vJ (Deal.go p f m k d any).1)
 | 0,k,d,any=>⟨Int.le_refl _,id,.inl,rfl,rfl,id⟩
 | m+1,k,d,any=>by
  rw[Deal.go]
  by_cases c:0<d.left∧d.hD ((f+k) % d.demand.length) p=true
  ·have ok:=yi (d:=d) (p:=p) (n:=(f+k) % d.demand.length)
   rw[kL c] at ok ⊢
   obtain⟨h1,h2,h3,h4,h5,h6⟩:=tM p f m (k+1) {d with out:=d.out.set ((f+k) % d.demand.length) (d.out.getD ((f+k) % d.demand.length) 0+1),left:=d.left - 1 } (any || true)
   simp only at *
   exact⟨by omega,fun h=>h2 (by omega),fun h=>.inr (by omega),h4,h5,fun h=>h6 (ok h)⟩
  ·rw[j6 c]
   simpa only[Bool.or_false] using tM p f m (k+1) d (any || false)
theorem round_facts(d:Deal)(p:Int)(f:Nat):(d.round p f).1.left≤d.left∧(0≤d.left→0≤(d.round p f).1.left)∧((d.round p f).2=true→(d.round p f).1.left<d.left)∧(d.round p f).1.demand=d.demand∧(d.round p f).1.prio=d.prio∧(vJ d→vJ (d.round p f).1):=by
 obtain⟨h1,h2,h3,h4⟩:=tM p f d.demand.length 0 d false
 exact⟨h1,h2,fun h=>(h3 h).resolve_left (by simp),h4⟩
theorem rI(p:Int)(f:Nat):∀ (a b:Nat) (d:Deal),0≤d.left→d.left.toNat<a→d.left.toNat<b→Deal.rounds p f a d=Deal.rounds p f b d
 | 0,_,_,_,h,_=>absurd h (by omega)
 | _,0,_,_,_,h=>absurd h (by omega)
 | a+1,b+1,d,h0,ha,hb=>by
  rw[Deal.rounds,Deal.rounds]
  obtain⟨h1,h2,h3,h4,h5⟩:=round_facts d p f
  by_cases c:(d.round p f).2=true
  ·rw[if_pos c,if_pos c]
   have:=h3 c
   have:=h2 h0
   exact rI p f a b _ (h2 h0) (by omega) (by omega)
  ·rw[if_neg c,if_neg c]
def dr(p:Int)(f:Nat)(d:Deal):Deal:=Deal.rounds p f (d.left.toNat+1) d
theorem LR{p:Int}{f:Nat}{d:Deal}(h0:0≤d.left)(h:(d.round p f).2=true):dr p f d=dr p f (d.round p f).1:=by
 obtain⟨h1,h2,h3,h4,h5⟩:=round_facts d p f
 unfold dr
 rw[Deal.rounds,if_pos h]
 have:=h3 h
 have:=h2 h0
 exact rI p f _ _ _ (h2 h0) (by omega) (by omega)
theorem Nc{p:Int}{f:Nat}{d:Deal}(h:(d.round p f).2=false):dr p f d=(d.round p f).1:=by
 unfold dr
 rw[Deal.rounds,if_neg (by rw[h];simp)]
def priosN(f:Nat):Nat→Deal→Deal
 | 0,d=>d
 | p+1,d=>priosN f p (dr (p:Int) f d)
theorem zV(f:Nat):∀ (p:Nat) (d:Deal),Deal.tB f p d=priosN f (p+1) d
 | 0,d=>rfl
 | p+1,d=>by rw[Deal.tB,zV f p];rfl
theorem kM{t:Int}{n:Nat}(hn:0<n):((t.tmod n+n).tmod n)=((pick t n:Nat):Int):=by
 unfold pick
 have h1 : -(n:Int)<t.tmod n:=Int.lt_tmod_of_pos t (show(0:Int)<n by omega)
 have h2:0≤(t.tmod n+n).tmod n:=Int.tmod_nonneg _ (by omega)
 omega
theorem j7{t:Int}{n:Nat}(hn:0<n):pick t n<n:=by
 have:=kM (t:=t) hn
 have h2:=Int.tmod_lt_of_pos (t.tmod n+n) (show(0:Int)<n by omega)
 omega
def vK(procs:Int)(demand prio:List Int):Deal:=⟨procs,demand,prio,List.replicate demand.length 0⟩
theorem sF{procs:Int}{demand prio:List Int}{turn:Int}(h:(¬(demand.length:Int)=(prio.length:Int)∨8<(demand.length:Int))∨within procs 64=false):fm procs demand prio turn=none:=by
 unfold fm;rw[if_pos]
 rcases h with (h | h) | h
 ·exact .inl (by omega)
 ·exact .inr (.inl (by omega))
 ·exact .inr (.inr (.inl h))
theorem pz{procs:Int}{demand prio:List Int}{turn:Int}{k:Nat}{p:Int}(hp:prio[k]?=some p)(h:within p 7=false):fm procs demand prio turn=none:=by
 unfold fm;rw[if_pos]
 refine .inr (.inr (.inr ?_))
 refine Bool.eq_false_iff.2 fun e=>?_
 have:=List.all_eq_true.1 e p (List.mem_of_getElem? hp)
 rw[h] at this;cases this
theorem pA{procs:Int}{demand prio:List Int}{turn:Int}(h:demand.length=prio.length∧demand.length≤8∧within procs 64=true)(hp:prio.all (fun p=>within p 7)=true)(h0:demand.length=0):fm procs demand prio turn=some []:=by
 unfold fm;rw[if_neg,if_pos h0]
 rintro(e | e | e | e)
 ·exact e h.1
 ·omega
 ·rw[h.2.2] at e;cases e
 ·rw[hp] at e;cases e
theorem mQ{procs:Int}{demand prio:List Int}{turn:Int}(h:demand.length=prio.length∧demand.length≤8∧within procs 64=true)(hp:prio.all (fun p=>within p 7)=true)(h0:¬demand.length=0):fm procs demand prio turn=some (priosN (pick turn demand.length) 8 (vK procs demand prio)).out:=by
 unfold fm;rw[if_neg,if_neg h0,zV];rfl
 rintro(e | e | e | e)
 ·exact e h.1
 ·omega
 ·rw[h.2.2] at e;cases e
 ·rw[hp] at e;cases e
theorem yj{procs:Int}{demand prio:List Int}(h:demand.length=prio.length∧demand.length≤8∧within procs 64=true)(hd:∀ z∈demand,z≤1000000):vJ (vK procs demand prio):=by
 have hw:=h.2.2
 unfold within at hw
 simp only[Bool.and_eq_true,decide_eq_true_eq] at hw
 exact⟨hw,h.1.symm,by simp[vK],hd,fun y hy=>by rw[List.eq_of_mem_replicate hy];exact Int.le_refl _,h.2.1⟩
theorem EE{d:Deal}(h:vJ d){n:Nat}{p y:Int}(hw:d.hD n p=true)(hy:d.out[n]?=some y)(hn:n<d.demand.length):y<1000000∧0≤y:=by
 unfold Deal.hD at hw
 obtain⟨z,hz⟩:=ai hn
 rw[aP hy,aP hz] at hw
 simp only[Bool.and_eq_true,decide_eq_true_eq] at hw
 have:=h.dm z (List.mem_of_getElem? hz)
 exact⟨by omega,h.om y (List.mem_of_getElem? hy)⟩
/-! what New makes -/
theorem BR{l:List gn}{n:Nat}{p:gn}(h:l[n]?=some p)(hc:dD p=0):checkAll (l.drop n)=checkAll (l.drop (n+1)):=by rw[drop_cons h,checkAll,if_pos hc]
theorem tO{l:List gn}{n:Nat}{p:gn}(h:l[n]?=some p)(hc:¬dD p=0):checkAll (l.drop n)=dD p:=by rw[drop_cons h,checkAll,if_neg hc]
theorem zW{procs:Int}{l:List gn}(h:((procs<1∨64<procs)∨(l.length:Int)<1)∨8<(l.length:Int)):dF procs l=1:=by unfold dF;rw[if_pos];omega
theorem JP{procs:Int}{l:List gn}(h:1≤procs∧procs≤64∧1≤l.length∧l.length≤8):dF procs l=checkAll l:=by unfold dF;rw[if_neg];omega
theorem EF(s:Spc)(f arg:Int):(s.begin f arg).2.2.aF.length=s.aF.length:=by
 unfold Spc.begin
 split
 ·rfl
 ·simp
theorem yk(p:gn):(Spc.new p).aF.length=16:=by rw[LO,EF];simp[yf]
end Go.SLYtpbjdoplfgeliaaGreat
namespace Go.SLYtpbjdoplfgeliaaGreat
structure lG where
 av:List Int
 aQ:Bool
 ended:Bool
 yielded:Bool
deriving DecidableEq
def lG.z:lG:=⟨[],false,false,false⟩
/-! words as numbers with a point -/
def Oe(a b:Int):Bool:=Ieee.double.order a.toNat b.toNat == some .lt
def O5(a b:Int):Bool:=Ieee.double.order a.toNat b.toNat == some .eq
def tQ(a:Int):Bool := !O5 a a
def jF(a:Int):Int:=if tQ a=true then n8 else a
def EG:Option Nat→Int
 | some r=>jF r
 | none=>n8
def LS(a b:Int):Int:=EG (Ieee.double.add a.toNat b.toNat)
def LU(a b:Int):Int:=EG (Ieee.double.sub a.toNat b.toNat)
def LV(a b:Int):Int:=EG (Ieee.double.mul a.toNat b.toNat)
def LW(a b:Int):Int:=EG (Ieee.double.div a.toNat b.toNat)
def mR(a:Int):Int:=jF (Go.FloatKind.f64.nearest (Go.IntKind.i64.wrap a))
def BS(b:Bool):Int:=if b=true then 1 else 0
def kN(neg:Bool)(win:Ordering)(x y:Nat):Nat :=
 let a:=Go.FloatKind.f64.decode x
 let b:=Go.FloatKind.f64.decode y
 if a == .infinity neg || b == .infinity neg then Go.FloatKind.f64.encode (.infinity neg)
 else if a.isNaN || b.isNaN then 0x7FF8000000000001
 else if a.isZero && b.isZero then (if a.neg == neg then x else y)
 else if a.order b == some win then x else y
def zX(a b:Int):Int:=if (tQ a || tQ b)=true then n8 else jF (kN true .lt a.toNat b.toNat:Nat)
def zY(a b:Int):Int:=if (tQ a || tQ b)=true then n8 else jF (kN false .gt a.toNat b.toNat:Nat)
def ym:Nat:=4890909195324358656
def zZ:Nat:=14114281232179134464
def lH(a:Int):Int :=
 if tQ a=true then 0 else
 if (Ieee.double.order a.toNat ym == some .gt || Ieee.double.order a.toNat ym == some .eq)=true then 9223372036854775807 else
 if (Ieee.double.order a.toNat zZ == some .lt)=true then 9223372036854775808 else BG (((Go.FloatKind.f64.decode a.toNat).toInt .zero).getD 0)
def cr(op a b:Int):Int :=
 if op=2 then a else if op=3 then BG (a+b) else if op=4 then BG (a-b) else if op=5 then BG (a * b) else if op=6 then BS (decide (a<b)) else
 if op=7 then LS a b else if op=8 then LU a b else if op=9 then LV a b else if op=10 then LW a b else
 if op=11 then zX a b else if op=12 then zY a b else if op=13 then BS (Oe a b) else
 if op=14 then lH a else if op=15 then mR a else 0
/-! plain instructions -/
structure iZ where
 fn:Int
 pc:Int
 aE:List Int
def iZ.z:iZ:=⟨0,0,[0,0,0,0,0,0,0,0]⟩
def iZ.tR(f:iZ)(a:Int):Int:=f.aE.getD a.toNat 0
def iZ.put(f:iZ)(a v:Int):iZ:={f with aE:=f.aE.set a.toNat v }
def qN(op:Int):Bool:=decide (op=2) || decide (op=14) || decide (op=15)
def mB(f:iZ)(m:List Int)(i:Ins):Option (iZ×List Int) :=
 if i.op=16 then some ({f with pc:=i.n },m) else
 if i.op=17 then some ({f with pc:=if f.tR i.a=0 then i.n else f.pc+1 },m) else
 if i.op=1 then some ({f.put i.a i.n with pc:=f.pc+1 },m) else
 if i.op=18 then (if f.tR i.b<m.length then some ({f.put i.a (m.getD (f.tR i.b).toNat 0) with pc:=f.pc+1 },m) else none) else
 if i.op=19 then (if f.tR i.a<m.length then some ({f with pc:=f.pc+1 },m.set (f.tR i.a).toNat (f.tR i.b)) else none) else
 some ({f.put i.a (cr i.op (f.tR i.b) (if qN i.op=true then 0 else f.tR i.c)) with pc:=f.pc+1 },m)
/-! threads -/
def Of:bI:=⟨0,0,[0,0,0,0,0,0,0,0],0,0,0,false, -1,0, -1⟩
def bI.nE(t:bI):iZ:=⟨t.fn,t.pc,t.aE⟩
def bI.oy(t:bI)(f:iZ):bI:={t with fn:=f.fn,pc:=f.pc,aE:=f.aE }
def bI.tR(t:bI)(a:Int):Int:=t.aE.getD a.toNat 0
def bI.put(t:bI)(a:Int)(v:Int):bI:={t with aE:=t.aE.set a.toNat v }
def Spc.t(s:Spc)(n:Nat):bI:=(s.aF.getD n none).getD Of
def Spc.aX(s:Spc)(n:Nat)(t:bI):Spc:={s with aF:=s.aF.set n (some t) }
def Spc.at(s:Spc)(n:Int):Option bI:=(aL s.aF n).getD none
def Spc.free(s:Spc)(n:Nat):Spc:={s with table:=slotFreed s.table (s.t n).handle,aF:=s.aF.set n none }
def Spc.tell(s:Spc)(r:Rec):Spc:={s with aA:=s.aA++[r] }
def dZ(p:gn)(f:iZ):Option Ins:=if f.fn<0∨f.pc<0 then none else (p.funcs.getD f.fn.toNat [])[f.pc.toNat]?
def bI.fz(t:bI)(y:Int):bI:={(if t.bZ = -1 then t else t.put t.bZ y).put 7 0 with cS:=0,bZ := -1 }
def bI.ku(t:bI)(y:Int):Rec:=⟨t.handle,t.op,0,if t.bZ = -1 then 0 else y,0,true⟩
def Spc.dN(s:Spc)(n:Nat)(y:Int):Spc:=s.aX n ((s.t n).fz y)
/-! an instruction that a thread does -/
structure Dng where
 s:Spc
 n:Nat
 i:Ins
 choice:Int
 out:lG
 ends:List Rec
def Dng.t(d:Dng):bI:=d.s.t d.n
def Dng.aX(d:Dng)(t:bI):Dng:={d with s:=d.s.aX d.n t }
def Dng.a(d:Dng):Int:=d.t.tR d.i.a
def Dng.b(d:Dng):Int:=d.t.tR d.i.b
def Dng.tell(d:Dng)(x y e:Int)(fin:Bool):Dng:={d with s:=d.s.tell ⟨d.t.handle,d.i.op,x,y,e,fin⟩ }
def Dng.pass(d:Dng)(x y e:Int):Dng:=(d.tell x y e true).aX (d.t.put 7 e)
def Dng.block(d:Dng)(cS bZ x y:Int):Dng:={(d.tell x y 0 false).aX {d.t with cS:=cS,op:=d.i.op,bZ:=bZ } with out:={d.out with aQ:=true } }
def Dng.cq(d:Dng)(n:Nat)(y:Int):Dng:={d with s:=d.s.dN n y,ends:=d.ends++[(d.s.t n).ku y],out:={d.out with av:=d.out.av++[(n:Int)] } }
def Dng.free(d:Dng)(n:Nat):Dng:={d with s:=d.s.free n }
def Dng.ended(d:Dng):Dng:={d with out:={d.out with ended:=true } }
def Dng.fin(d:Dng)(v:Int):Dng :=
 if d.t.bN=true then d.ended.free d.n else
 if d.t.ay = -1 then d.ended.aX {d.t with cS:=9,value:=v } else (d.ended.cq d.t.ay.toNat v).free d.n
def Dng.finish(d:Dng):lG×Spc:=(d.out,{d.s with aA:=d.s.aA++d.ends })
def Dng.bF(d:Dng)(g:Gates):Dng:={d with s:={d.s with al:=g } }
def Dng.eM(d:Dng)(k:Nat)(u:Tub):Dng:={d with s:={d.s with cj:=d.s.cj.set k u } }
def Dng.dc(d:Dng)(u:lj):Dng:={d with s:={d.s with ca:=u } }
def Dng.wu(d:Dng)(u:mu):Dng:={d with s:={d.s with aT:=u } }
def Dng.plain(d:Dng):Dng :=
 match mB d.t.nE d.s.mem d.i with
 | some (f,m) =>
  let d1:=if d.i.op=18 then d.tell d.b (d.s.mem.getD d.b.toNat 0) 0 true else if d.i.op=19 then d.tell d.a d.b 0 true else d
  {d1 with s:={d1.s.aX d.n (d.t.oy f) with mem:=m } }
 | none=>(if d.i.op=18 then d.tell d.b 0 6 true else d.tell d.a d.b 6 true).fin 18446744073709551615
def Dng.spawn(d:Dng):Dng :=
 let r:=d.s.begin d.i.n d.b
 let h:=if r.2.1=0 then (r.2.2.t r.1.toNat).handle else 0
 let d1:Dng:={d with s:=r.2.2,out:=if r.2.1=0 then {d.out with av:=d.out.av++[r.1] } else d.out }
 (d1.aX (d1.t.put d.i.a h)).pass d.i.n h r.2.1
def Dng.other(d:Dng)(h:Int):Nat×Int :=
 match bC d.s.table h with
 | none=>(0,3)
 | some n=>if n=d.n∨(d.s.t n).bN=true then (0,3) else if (d.s.t n).ay = -1 then (n,0) else (0,4)
def Dng.join(d:Dng):Dng :=
 let x:=d.b
 if (d.other x).2≠0 then d.pass x 0 (d.other x).2 else
 let n:=(d.other x).1
 if (d.s.t n).cS=9 then ((d.aX (d.t.put d.i.a (d.s.t n).value)).free n).pass x (d.s.t n).value 0 else
 ({d with s:=d.s.aX n {d.s.t n with ay:=d.n } }:Dng).block 4 d.i.a x 0
def Dng.fW(d:Dng):Dng :=
 let x:=d.a
 if (d.other x).2≠0 then d.pass x 0 (d.other x).2 else
 let n:=(d.other x).1
 (if (d.s.t n).cS=9 then d.free n else ({d with s:=d.s.aX n {d.s.t n with bN:=true } }:Dng)).pass x 0 0
def Dng.dA(d:Dng):List Int→Dng
 | []=>d
 | n::l=>(d.cq n.toNat 0).dA l
def cN(s:Spc):List Int→Spc
 | []=>s
 | n::l=>cN (s.aX n.toNat {s.t n.toNat with cS:=1 }) l
def Dng.waits(d:Dng):List Int:=((d.s.al.dn.take d.s.fb.bx.toNat).flatMap fun m=>m.wait.map (·.who))
def Dng.mj(d:Dng)(l:List Int):Dng:=({d with s:=cN d.s d.waits }:Dng).dA l
def Dng.given(d:Dng)(n:Int)(ok:Bool):Dng:=if ok=true then d.cq n.toNat 0 else d
def Dng.mutex(d:Dng):Dng :=
 let m:=d.i.n
 if d.i.op=25 then
  let r:=d.s.al.lock d.n m
  if r.2.1=0∧r.1=false then (d.bF r.2.2).block 1 (-1) m 0 else (d.bF r.2.2).pass m 0 r.2.1
 else if d.i.op=26 then
  let r:=d.s.al.unlock d.n m d.choice
  ((d.bF r.2.2.2).pass m 0 r.2.2.1).given r.1 r.2.1
 else
  let r:=d.s.al.wait d.n m d.i.c d.choice
  if r.2.2.1≠0 then (d.bF r.2.2.2).pass m (BG d.i.c) r.2.2.1 else ((d.bF r.2.2.2).block 2 (-1) m (BG d.i.c)).given r.1 r.2.1
def Dng.ez(d:Dng):Dng :=
 if d.i.op=31 then
  let r:=d.s.al.up d.i.n d.choice
  ((d.bF r.2.2.2).pass d.i.n 0 r.2.2.1).given r.1 r.2.1
 else
  let r:=d.s.al.down d.n d.i.n
  if r.2.1=0∧r.1=false then (d.bF r.2.2).block 3 (-1) d.i.n 0 else (d.bF r.2.2).pass d.i.n 0 r.2.1
def Dng.ask(d:Dng)(block y bZ:Int):Dng :=
 if block<64 then
  let r:=d.s.ca.ask ⟨d.n,block,decide (d.i.op=34),y⟩
  if r.1≠0 then (d.dc r.2).pass block y r.1 else (d.dc r.2).block 5 bZ block y
 else d.pass block y 1
def Og:Tub:=⟨0,[],[],[]⟩
def Dng.bW(d:Dng):Tub:=d.s.cj.getD d.i.n.toNat Og
def Dng.put(d:Dng):Dng :=
 let x:=d.a
 let r:=d.bW.put d.n x
 let d1:=d.eM d.i.n.toNat r.2.2.2
 if r.1=false then d1.block 7 (-1) d.i.n x else
 if r.2.2.1=true then (d1.pass d.i.n x 0).cq r.2.1.toNat x else d1.pass d.i.n x 0
def Dng.get(d:Dng):Dng :=
 let r:=d.bW.get d.n
 let d1:=d.eM d.i.n.toNat r.2.2.2.2
 if r.2.1=false then d1.block 6 d.i.a d.i.n 0 else
 let d2:=(d1.aX (d1.t.put d.i.a r.1)).pass d.i.n r.1 0
 if r.2.2.2.1=true then d2.cq r.2.2.1.toNat 0 else d2
def Dng.sleep(d:Dng):Dng :=
 let x:=d.a
 if x=0 then d.pass x 0 0 else if 1099511627776<x then d.pass x 0 1 else (d.wu (d.s.aT.sleep d.n x).2).block 8 (-1) x 0
def Dng.kernel(d:Dng):Dng :=
 if d.i.op=33 then d.ask d.b 0 d.i.a else
 if d.i.op=34 then d.ask d.a d.b (-1) else
 if d.i.op=35 then d.put else
 if d.i.op=36 then d.get else
 if d.i.op=37 then d.sleep else d.pass d.a 0 0
def Dng.call(d:Dng):Dng :=
 if d.i.op=20 then d.spawn else
 if d.i.op=32 then (d.aX (d.t.put d.i.a d.t.handle)).pass 0 d.t.handle 0 else
 if d.i.op=24 then {d.pass 0 0 0 with out:={d.out with yielded:=true } } else
 if d.i.op=21 then d.join else
 if d.i.op=22 then d.fW else
 if d.i.op=23 then (d.tell d.a 0 0 true).fin d.a else
 if d.i.op=25∨d.i.op=26∨d.i.op=27 then d.mutex else
 if d.i.op=28∨d.i.op=29 then
  let r:=d.s.al.signal d.i.n d.choice (decide (d.i.op=29))
  ((d.bF r.2.2).pass d.i.n 0 r.2.1).mj r.1
 else
 if d.i.op=30∨d.i.op=31 then d.ez else d.kernel
/-! a space's steps -/
def Spc.dR(s:Spc)(n:Nat)(i:Ins)(choice:Int):Dng:=⟨s,n,i,choice,lG.z,[]⟩
def Spc.run(s:Spc)(n choice:Int):lG×Int×Spc :=
 match s.at n with
 | none=>(lG.z,1,s)
 | some t =>
  if t.cS≠0 then (lG.z,4,s) else
  match dZ s.fb t.nE with
  | none=>let r:=(((s.dR n.toNat ⟨23,0,0,0,0⟩ choice).tell 0 0 0 true).fin 0).finish;(r.1,0,r.2)
  | some i =>
   let d:=s.dR n.toNat i choice
   let r:=(if cls i.op=1 then d.plain else (d.aX {t with pc:=t.pc+1 }).call).finish
   (r.1,0,r.2)
def Spc.done(s:Spc)(k:Int):lG×Int×Spc :=
 let r:=s.ca.done k
 if r.2.2.1=false then (lG.z,3,s) else
 let s1:Spc:={s with ca:=r.2.2.2 }
 (⟨[r.1.who],false,false,false⟩,0,(s1.dN r.1.who.toNat r.2.1).tell ((s1.t r.1.who.toNat).ku r.2.1))
def cK(s:Spc):List Int→Spc
 | []=>s
 | n::l=>cK ((s.dN n.toNat 0).tell ((s.t n.toNat).ku 0)) l
def Spc.tick(s:Spc):lG×Spc:=(⟨s.aT.due,false,false,false⟩,cK {s with aT:=s.aT.tick.2 } s.aT.due)
def Spc.class(s:Spc)(n:Int):Int :=
 match s.at n with
 | none=>0
 | some t=>if t.cS≠0 then 0 else match dZ s.fb t.nE with | none=>2 | some i=>cls i.op
end Go.SLYtpbjdoplfgeliaaGreat
namespace Go.SLYtpbjdoplfgeliaaGreat
open Go Go.RowKit
def EH(P:Program)(W:World)(f:FuncId)(args:List Value)(pre:List aa)(X:Type)(en:X→Ending)(fact:X→Prop)(post:X→List aa):Prop :=
 ∀ (F:aa) (w:World),Sat W w (sep (seps pre) F)→Calls P f args.toArray w (fun e w'=>∃ x,e=en x∧fact x∧Sat W w' (sep (seps (post x)) F))
section
variable{P:Program}{W:World}{N:Nat}{Q:Exit→Act→World→Prop}{L:List (Nat×Option Value)}{H K R:List aa}{O:Array Oper}{T:TypeId}{rest:List Oper}
theorem Fn.b{f:FuncId}{args:List Value}{pre:List aa}{X:Type}{val:X→Value}{fact:X→Prop}{post:X→List aa}(h:Fn P W f args pre X val fact post):EH P W f args pre X (fun x=>.returned (val x)) fact post:=h
theorem EH.intro{f:FuncId}{fn:Func}{c:Code}{args:List Value}{pre:List aa}{X:Type}{en:X→Ending}{fact:X→Prop}{post:X→List aa}(hf:P.funcs[f]?=some fn)(hb:fn.body=some c)(hn:fn.ntmps=N)(ha:Nat.ble args.length N=true)
  (h:∀ F,ar P W N (bodyPost P fn (fun e w'=>∃ x,e=en x∧fact x∧Sat W w' (sep (seps (post x)) F))) c (enum 0 args) (pre++[F])):EH P W f args pre X en fact post:=fun F w hs=>by
 have hle:args.length≤N:=Nat.ble_eq.mp ha
 refine calls_of_wp hf hb (h F _ w ⟨?_,fun k v hv=>?_,rfl⟩ ?_)
 ·simp[hn];omega
 ·obtain⟨_,h2⟩:=kE args 0 k v hv
  have hk:k<args.length:=by
   have:=(List.getElem?_eq_some_iff.1 h2).1;simpa using this
  show(args.toArray++Array.replicate (fn.ntmps-args.toArray.size) undef)[k]?=some v
  rw[Array.getElem?_append_left (by simpa using hk)]
  simpa using h2
 ·rw[ah];simp only[seps];rw[aK];exact hs
theorem aR.Nd{f:FuncId}{xs:Array Operand}{ts:Array TypeId}{pos:String}{after:Array Edge}{d:Nat}{args:List Value}{pre:List aa}{X:Type}{en:X→Ending}{fact:X→Prop}{post:X→List aa}(hN:Nat.blt d N=true)
  (hc:∀ args w,(callFunc f args).run P w = .ok (.enter f args) w) (hx:evs L xs.toList=some args) (hfn:EH P W f args pre X en fact post) (ht:aw H pre R) (hno:∀ x,en x≠.outgrown)
  (h1:∀ x v,en x = .returned v→fact x→aR P W N O Q rest ((d,some v)::L) (post x++R)) (h2:∀ x c,en x = .panicked c→fact x→bA W N Q (.panic c) L (post x++R)) :
  aR P W N O Q (⟨some d,.call ⟨.value (.func f),xs,ts⟩,T,pos,after,none⟩::rest) L H:=fun a w ha hs=>wpList_plain rfl fun Kp hK=>by
 have e:xs.map a.eval=args.toArray:=by
  rw[← ha.nY hx, ← List.map_toArray]
 have hs:=ht.sat hs
 rw[ah] at hs
 unfold Oper.wp
 have hr:(execOp a.eval ⟨some d,.call ⟨.value (.func f),xs,ts⟩,T,pos,after,none⟩).run P w = .ok (.enter f args.toArray) w:=by
  simp[execOp,resolve,Act.eval,Deferred.ofValue,invoke,e,hc]
 rw[hr]
 simp only[Oper.upon]
 refine(hfn _ w hs).mono fun en' w' ⟨x,he,hf,hs'⟩=>?_
 rw[← ah] at hs'
 subst he
 cases e2:en x with
 | returned v=>exact hK _ _ (h1 x v e2 hf _ _ (ha.put (Nat.blt_eq.mp hN) _) hs')
 | panicked c=>exact h2 x c e2 hf _ _ ha hs'
 | outgrown=>exact absurd e2 (hno x)
theorem bA.panics{fn:Func}{R:Ending→World→Prop}{c:List PanicEntry}(h:∀ w,Sat W w (seps H)→R (.panicked c) w):bA W N (bodyPost P fn R) (.panic c) L H:=fun a w ha hs=>by
 unfold bodyPost
 exact⟨ha.defers,h w hs⟩
theorem Y.JQ{t:TypeId}{u:TypeDesc}{x:Operand}{v:Value}(hu:P.underlying t=some u)(hn:(match u with | .interface _=>true | _=>false)=false)(hx:ev L x=some v):Y P W N (.makeInterface t x) T L H (.iface t v):=fun dst pos after guard a w ha hs=>by
 simp only[execOp,ha.eval hx]
 refine bS ?_
 cases u <;> first | (simp at hn;done) | simp[Instr.makeInterface,run_underlying hu]
theorem aR.panic{t:TypeId}{x:Operand}{v:Value}{pos:String}{after:Array Edge}{d:Option Nat}(hx:ev L x=some (.iface t v))(h:bA W N Q (.panic [{v:=.iface t v,recovered:=false }]) L H) :
  aR P W N O Q (⟨d,.panic x,T,pos,after,none⟩::rest) L H:=fun a w ha hs=>wpList_plain rfl fun Kp hK=>by
 unfold Oper.wp
 have hr:(execOp a.eval ⟨d,.panic x,T,pos,after,none⟩).run P w = .halt (.panic (.iface t v)) w:=by
  simp only[execOp,ha.eval hx];rfl
 rw[hr]
 exact h a w ha hs
end
end Go.SLYtpbjdoplfgeliaaGreat
namespace Go.SLYtpbjdoplfgeliaaGreat
open Go Go.RowKit
/-! a part apart, and how it is laid back -/
def rJ{X:Type}(B C:X→aa):aa:=fun h=>∀ x h',Jt h' h→B x h'→C x (join h' h)
theorem qO{X:Type}{B C:X→aa}(x:X):∀ h,seps [B x,rJ B C] h→C x h:=fun h a=>by
 simp only[seps,aK] at a
 obtain⟨h1,h2,b,c,d,rfl⟩:=a
 exact c x h1 d b
theorem tT{X:Type}{B C:X→aa}{R:aa}(f:∀ x h,sep (B x) R h→C x h):∀ h,R h→rJ B C h:=fun h r x h' d b=>f x _ ⟨h',h,b,r,d,rfl⟩
theorem kv{A B:aa}{h:jS}:seps [A,B] h↔sep A B h:=by simp only[seps,aK]
section
variable{α:Type}{enc:α→List Value}{k:Nat}{v:Value}{xs:List α}
theorem yn{i:Nat}{x:α}(hx:xs[i]?=some x):∀ h,sl enc k v xs h→sep (arr (blk v) (ek v+i * k) (enc x)) (hole enc k v xs i) h:=fun h s=>by
 have hi:=(List.getElem?_eq_some_iff.1 hx).1
 rcases s with ⟨_,rfl,_⟩ | ⟨b,cap,sp,rfl,hle,hk,hsp,s⟩
 ·simp at hx
 ·have hl:(rows enc (xs.take i)).length=i * k:=by
   rw[bq fun y hy=>hk y (List.mem_of_mem_take hy),List.length_take,Nat.min_eq_left (Nat.le_of_lt hi)]
  have hxk:=hk x (List.mem_of_getElem? hx)
  have e:rows enc xs++sp=rows enc (xs.take i)++(enc x++(rows enc (xs.drop (i+1))++sp)):=by
   conv=>lhs;rw[tg hx]
   rw[ct,fh];simp
  rw[e,dX,dX,hl,hxk,bb] at s
  simp only[blk,ek]
  refine bB (fun _ h=>h) (fun h hh=>⟨b,cap,sp,rfl,hle,hk,hsp,?_⟩) h s
  rw[show(i+1) * k=0+i * k+k from by rw[Nat.succ_mul];omega];exact hh
theorem pB{i:Nat}{x':α}(hi:i<xs.length)(hx':(enc x').length=k):∀ h,sep (arr (blk v) (ek v+i * k) (enc x')) (hole enc k v xs i) h→sl enc k v (xs.set i x') h:=fun h s=>by
 obtain⟨x,hx⟩:∃ x,xs[i]?=some x:=⟨xs[i],by simp[hi]⟩
 obtain⟨h3,h4,a3,⟨b,cap,sp,hv,hle,hk,hsp,a4⟩,d',e'⟩:=s
 subst hv
 have s':sep (arr b (0+i * k) (enc x')) (sep (arr b 0 (rows enc (xs.take i))) (arr b ((i+1) * k) (rows enc (xs.drop (i+1))++sp))) h:=⟨h3,h4,a3,a4,d',e'⟩
 have hl:(rows enc (xs.take i)).length=i * k:=by
  rw[bq fun y hy=>hk y (List.mem_of_mem_take hy),List.length_take,Nat.min_eq_left (Nat.le_of_lt hi)]
 have e2:rows enc (xs.set i x')++sp=rows enc (xs.take i)++(enc x'++(rows enc (xs.drop (i+1))++sp)):=by
  rw[By hx,ct,fh];simp
 have hk':∀ y∈xs.set i x',(enc y).length=k:=fun y hy=>by
  rcases List.mem_or_eq_of_mem_set hy with h | h
  ·exact hk y h
  ·subst h;exact hx'
 right
 refine⟨b,cap,sp,by simp,by simpa using hle,hk',by simpa using hsp,?_⟩
 rw[e2,dX,dX,hl,hx',bb]
 rwa [show(i+1) * k=0+i * k+k from by rw[Nat.succ_mul];omega] at s'
theorem mS(h0:xs≠[]):∀ h,sl enc k v xs h→ ∃ b cap,v = .slice (some ⟨b,0,none⟩) xs.length cap∧xs.length≤cap:=fun h s=>by
 rcases s with ⟨_,hx0,_⟩ | ⟨b,cap,_,hv,hle,_⟩
 ·exact absurd hx0 h0
 ·exact⟨b,cap,hv,hle⟩
end
theorem mT{α:Type}(xs:List α)(i:Nat):xs.take i++xs.drop (i+1)=xs.eraseIdx i:=(List.eraseIdx_eq_take_drop_succ ..).symm
theorem pC{b o:Nat}{u:Value}{cs:List Value}:∀ h,arr b o (u::cs) h→seps [arr b o [u],arr b (o+1) cs] h:=fun h a=>by
 rw[show u::cs=[u]++cs from rfl,dX] at a
 exact kv.2 a
theorem wv{b o:Nat}{u:Value}{cs:List Value}:∀ h,seps [arr b o [u],arr b (o+1) cs] h→arr b o (u::cs) h:=fun h a=>by
 rw[show u::cs=[u]++cs from rfl,dX]
 exact kv.1 a
/-! gates -/
def eh(b o:Nat)(m:eK):aa:=jd (fun _:Value=>True) fun u=>[arr b o [u,.bool m.held,.int .i64 m.owner],sl dt 2 u m.wait]
def hM(b o:Nat)(m:k6):aa:=jd (fun _:Value=>True) fun u=>[arr b o [u,.int .i64 m.count],sl dt 2 u m.wait]
theorem GR{v:Value}{l:List eK}{i:Nat}{m:eK}(hm:l[i]?=some m):∀ h,ef v l h→seps [eh (blk v) (ek v+i * 3) m,rJ (eh (blk v) (ek v+i * 3)) (fun m'=>ef v (l.set i m'))] h:=fun h ⟨xs,hxs,a⟩=>by
 obtain⟨x,hx⟩:=ai (show i<xs.length by rw[← List.length_map (f:=(·.2)),hxs];exact(List.getElem?_eq_some_iff.1 hm).1)
 have hxm:x.2=m:=by have:=eU hxs hx;rw[hm] at this;exact(Option.some.inj this).symm
 rw[kv] at a ⊢
 have a2:sep (sep (arr (blk v) (ek v+i * 3) (mA x)) (hole mA 3 v xs i)) (sep (sl dt 2 x.1 x.2.wait) (aO (fun x:Value×eK=>sl dt 2 x.1 x.2.wait) (xs.eraseIdx i))) h:=bB (yn hx) (fun g b=>by rw[jx _ hx] at b;exact b) h a
 rw[aU,bb (hole mA 3 v xs i), ← aU] at a2
 refine bB ?_ ?_ h a2
 ·intro g b;exact⟨x.1,trivial,by rw[kv, ← hxm];exact b⟩
 ·refine tT fun m' g b=>?_
  obtain⟨h1,h2,⟨u, -,b1⟩,b2,d,rfl⟩:=b
  refine⟨xs.set i (u,m'),by show(xs.set i (u,m')).map (·.2)=_;rw[List.map_set,show xs.map (·.2)=l from hxs],?_⟩
  rw[kv] at b1 ⊢
  have b3:sep (sep (arr (blk v) (ek v+i * 3) (mA (u,m'))) (sl dt 2 u m'.wait)) (sep (hole mA 3 v xs i) (aO (fun x:Value×eK=>sl dt 2 x.1 x.2.wait) (xs.eraseIdx i))) (join h1 h2):=⟨h1,h2,b1,b2,d,rfl⟩
  rw[aU,bb (sl dt 2 u m'.wait), ← aU] at b3
  refine bB (pB (List.getElem?_eq_some_iff.1 hx).1 rfl) (fun g c=>?_) _ b3
  rw[jy _ _ (List.getElem?_eq_some_iff.1 hx).1];exact c
theorem GS{v:Value}{l:List k6}{i:Nat}{m:k6}(hm:l[i]?=some m):∀ h,fy v l h→seps [hM (blk v) (ek v+i * 2) m,rJ (hM (blk v) (ek v+i * 2)) (fun m'=>fy v (l.set i m'))] h:=fun h ⟨xs,hxs,a⟩=>by
 obtain⟨x,hx⟩:=ai (show i<xs.length by rw[← List.length_map (f:=(·.2)),hxs];exact(List.getElem?_eq_some_iff.1 hm).1)
 have hxm:x.2=m:=by have:=eU hxs hx;rw[hm] at this;exact(Option.some.inj this).symm
 rw[kv] at a ⊢
 have a2:sep (sep (arr (blk v) (ek v+i * 2) (mK x)) (hole mK 2 v xs i)) (sep (sl dt 2 x.1 x.2.wait) (aO (fun x:Value×k6=>sl dt 2 x.1 x.2.wait) (xs.eraseIdx i))) h:=bB (yn hx) (fun g b=>by rw[jx _ hx] at b;exact b) h a
 rw[aU,bb (hole mK 2 v xs i), ← aU] at a2
 refine bB ?_ ?_ h a2
 ·intro g b;exact⟨x.1,trivial,by rw[kv, ← hxm];exact b⟩
 ·refine tT fun m' g b=>?_
  obtain⟨h1,h2,⟨u, -,b1⟩,b2,d,rfl⟩:=b
  refine⟨xs.set i (u,m'),by show(xs.set i (u,m')).map (·.2)=_;rw[List.map_set,show xs.map (·.2)=l from hxs],?_⟩
  rw[kv] at b1 ⊢
  have b3:sep (sep (arr (blk v) (ek v+i * 2) (mK (u,m'))) (sl dt 2 u m'.wait)) (sep (hole mK 2 v xs i) (aO (fun x:Value×k6=>sl dt 2 x.1 x.2.wait) (xs.eraseIdx i))) (join h1 h2):=⟨h1,h2,b1,b2,d,rfl⟩
  rw[aU,bb (sl dt 2 u m'.wait), ← aU] at b3
  refine bB (pB (List.getElem?_eq_some_iff.1 hx).1 rfl) (fun g c=>?_) _ b3
  rw[jy _ _ (List.getElem?_eq_some_iff.1 hx).1];exact c
theorem GU{v:Value}{l:List (List eW)}{i:Nat}{m:List eW}(hm:l[i]?=some m):∀ h,iH v l h→seps [iV (blk v) (ek v+i * 1) m,rJ (iV (blk v) (ek v+i * 1)) (fun m'=>iH v (l.set i m'))] h:=fun h ⟨xs,hxs,a⟩=>by
 obtain⟨x,hx⟩:=ai (show i<xs.length by rw[← List.length_map (f:=(·.2)),hxs];exact(List.getElem?_eq_some_iff.1 hm).1)
 have hxm:x.2=m:=by have:=eU hxs hx;rw[hm] at this;exact(Option.some.inj this).symm
 rw[kv] at a ⊢
 have a2:sep (sep (arr (blk v) (ek v+i * 1) (eu x)) (hole eu 1 v xs i)) (sep (sl dt 2 x.1 x.2) (aO (fun x:Value×List eW=>sl dt 2 x.1 x.2) (xs.eraseIdx i))) h:=bB (yn hx) (fun g b=>by rw[jx _ hx] at b;exact b) h a
 rw[aU,bb (hole eu 1 v xs i), ← aU] at a2
 refine bB ?_ ?_ h a2
 ·intro g b;exact⟨x.1,trivial,by rw[kv, ← hxm];exact b⟩
 ·refine tT fun m' g b=>?_
  obtain⟨h1,h2,⟨u, -,b1⟩,b2,d,rfl⟩:=b
  refine⟨xs.set i (u,m'),by show(xs.set i (u,m')).map (·.2)=_;rw[List.map_set,show xs.map (·.2)=l from hxs],?_⟩
  rw[kv] at b1 ⊢
  have b3:sep (sep (arr (blk v) (ek v+i * 1) (eu (u,m'))) (sl dt 2 u m')) (sep (hole eu 1 v xs i) (aO (fun x:Value×List eW=>sl dt 2 x.1 x.2) (xs.eraseIdx i))) (join h1 h2):=⟨h1,h2,b1,b2,d,rfl⟩
  rw[aU,bb (sl dt 2 u m'), ← aU] at b3
  refine bB (pB (List.getElem?_eq_some_iff.1 hx).1 rfl) (fun g c=>?_) _ b3
  rw[jy _ _ (List.getElem?_eq_some_iff.1 hx).1];exact c
theorem Dk{b o:Nat}{m:eK}:∀ h,seps [iV b o m.wait,arr b (o+1) [.bool m.held,.int .i64 m.owner]] h→eh b o m h:=fun h a=>by
 rw[kv] at a
 obtain⟨h1,h2,⟨u, -,b1⟩,b2,d,rfl⟩:=a
 refine⟨u,trivial,?_⟩
 rw[kv] at b1 ⊢
 have b3:sep (sep (arr b o [u]) (sl dt 2 u m.wait)) (arr b (o+1) [.bool m.held,.int .i64 m.owner]) (join h1 h2):=⟨h1,h2,b1,b2,d,rfl⟩
 rw[aU,iF (sl dt 2 u m.wait), ← aU] at b3
 exact bB (fun g c=>wv g (kv.2 c)) (fun _ c=>c) _ b3
theorem sG{b o:Nat}{m:k6}:∀ h,seps [iV b o m.wait,arr b (o+1) [.int .i64 m.count]] h→hM b o m h:=fun h a=>by
 rw[kv] at a
 obtain⟨h1,h2,⟨u, -,b1⟩,b2,d,rfl⟩:=a
 refine⟨u,trivial,?_⟩
 rw[kv] at b1 ⊢
 have b3:sep (sep (arr b o [u]) (sl dt 2 u m.wait)) (arr b (o+1) [.int .i64 m.count]) (join h1 h2):=⟨h1,h2,b1,b2,d,rfl⟩
 rw[aU,iF (sl dt 2 u m.wait), ← aU] at b3
 exact bB (fun g c=>wv g (kv.2 c)) (fun _ c=>c) _ b3
def Lc(v:Value)(n k:Nat)(i:Int):Value:=.pointer (if 0≤i∧i<(n:Int) then some ⟨blk v,ek v+i.toNat * k,none⟩ else none)
/-! searches -/
def idxP{α:Type}(p:α→Bool):List α→Nat→Int
 | [],_ => -1
 | x::l,k=>if p x=true then (k:Int) else idxP p l (k+1)
theorem jG{α:Type}{p:α→Bool}{l:List α}{k:Nat}{x:α}(h:l[k]?=some x)(hp:p x=true):idxP p (l.drop k) k=(k:Int):=by rw[drop_cons h,idxP,if_pos hp]
theorem ik{α:Type}{p:α→Bool}{l:List α}{k:Nat}{x:α}(h:l[k]?=some x)(hp:p x=false):idxP p (l.drop k) k=idxP p (l.drop (k+1)) (k+1):=by rw[drop_cons h,idxP,if_neg (by rw[hp];simp)]
theorem jH{α:Type}{p:α→Bool}{l:List α}{k:Nat}(h:l.length≤k):idxP p (l.drop k) k = -1:=by rw[List.drop_of_length_le h];rfl
theorem jI{α:Type}{p:α→Bool}:∀ (l:List α) (k:Nat),decide (0≤idxP p l k)=l.any p
 | [],_=>rfl
 | x::l,k=>by
  rw[idxP,List.any_cons]
  cases h:p x with
  | true=>rw[if_pos rfl];simp
  | false=>rw[if_neg (by simp),jI l (k+1),Bool.false_or]
theorem yo{α β:Type}{p:β→Bool}{xs:List (α×β)}{l:List β}(h:xs.map (·.2)=l):(xs.any fun x=>p x.2)=l.any p:=by rw[← h,List.any_map];rfl
end Go.SLYtpbjdoplfgeliaaGreat
namespace Go.SLYtpbjdoplfgeliaaGreat
open Go Go.RowKit
theorem getD_some{α:Type}{l:List α}{d:α}{n:Nat}(h:n<l.length):l[n]?=some (l.getD n d):=by
 rw[List.getD_eq_getElem?_getD,List.getElem?_eq_getElem h];rfl
section
variable{P:Program}{W:World}{N:Nat}{L:List (Nat×Option Value)}{H:List aa}{T:TypeId}
theorem Y.val{op:Op}{u v:Value}(h:Y P W N op T L H u)(e:u=v):Y P W N op T L H v:=e ▸ h
end
/-! slots -/
def hN(h:Int):Nat:=(h % 65536-1).toNat
def kz(l:List (Bool×Int))(n:Nat):Bool×Int:=l.getD n (false,0)
theorem wx{l:List (Bool×Int)}{h:Int}(e:h % 65536=0):bC l h=none:=by unfold bC;rw[if_pos e]
theorem find_eq{l:List (Bool×Int)}{h:Int}(e:¬h % 65536=0):bC l h=if (decide ((l.length:Int)≤(hN h:Int)) || !(kz l (hN h)).1 || decide (et (kz l (hN h)).2 (hN h)≠h))=true then none else some (hN h):=by
 unfold bC
 rw[if_neg e]
 have hb:0≤h % 65536-1:=by omega
 have hc:(hN h:Int)=h % 65536-1:=by unfold hN;omega
 rw[hc]
 by_cases hl:(l.length:Int)≤h % 65536-1
 ·rw[show l[(h % 65536-1).toNat]?=none from by rw[List.getElem?_eq_none];omega]
  simp[hl]
 ·rw[getD_some (d:=(false,0)) (show(h % 65536-1).toNat<l.length by omega)]
  unfold kz hN
  simp only[hl,decide_false,Bool.false_or]
  generalize l.getD (h % 65536-1).toNat (false,0)=o
  obtain⟨u,t⟩:=o
  cases u <;> simp <;> rfl
theorem Dl{l:List (Bool×Int)}{h:Int}{n:Nat}(e:bC l h=some n):n<l.length∧n=hN h∧(kz l n).1=true∧et (kz l n).2 n=h:=by
 by_cases e0:h % 65536=0
 ·rw[wx e0] at e;cases e
 ·rw[find_eq e0] at e
  split at e
  ·cases e
  ·rename_i hc
   cases e
   simp only[Bool.not_eq_true,Bool.or_eq_false_iff,decide_eq_false_iff_not,Bool.not_eq_false',ne_eq,Decidable.not_not] at hc
   exact⟨by omega,rfl,hc.1.2,hc.2⟩
theorem JT{h:Int}(e:¬h % 65536=0):h % 65536-1=(hN h:Int):=by unfold hN;omega
def Nf(o:Option Nat):Value:=.tuple #[.int .i64 ((o.getD 0:Nat):Int),.bool o.isSome]
theorem z6{h:Int}(a:0≤h):h.tmod 65536=h % 65536:=Int.tmod_eq_emod_of_nonneg a
theorem BT{l:List (Bool×Int)}{h:Int}(e:bC l h=none):slotFreed l h=l:=by unfold slotFreed;rw[e]
theorem tU{l:List (Bool×Int)}{h:Int}{n:Nat}(e:bC l h=some n):slotFreed l h=l.set n (false,(kz l n).2):=by unfold slotFreed;rw[e];rfl
theorem Dm{t:Int}{n:Nat}(hn:0<n)(hb:n≤1000000000) : -9223372036854775808≤t.tmod n+n∧t.tmod n+n≤9223372036854775807:=by
 have h1:=Int.lt_tmod_of_pos t (show(0:Int)<n by omega)
 have h2:=Int.tmod_lt_of_pos t (show(0:Int)<n by omega)
 omega
/-! gates -/
def Pj(l:List eW):Prop:=l.length≤1000000
structure gO(g:Gates):Prop where
 m:g.dn.length≤1000000
 c:g.hJ.length≤1000000
 s:g.ez.length≤1000000
 mw:∀ x∈g.dn,x.wait.length≤1000000
 cw:∀ x∈g.hJ,x.length≤1000000
 sw:∀ x∈g.ez,x.wait.length≤1000000
section
variable{W:World}
theorem yp{α β:Type}{enc:α→List Value}{k:Nat}{f:β→Value}{g:β→List α}{xs:List β}{x:β}(hx:x∈xs){H:List aa}(t:At H (aO (fun x=>sl enc k (f x) (g x)) xs)):Rd W H enc k (f x) (g x):=by
 obtain⟨i,hi⟩:=List.getElem?_of_mem hx
 exact Rd.sub t fun h a=>⟨_,by rw[jx _ hi] at a;exact a⟩
end
theorem GV{g:Gates}{xm:List (Value×eK)}{xc:List (Value×List eW)}{xs:List (Value×k6)}{who:Int}(h1:xm.map (·.2)=g.dn)(h2:xc.map (·.2)=g.hJ)(h3:xs.map (·.2)=g.ez) :
  ((xm.any fun x=>mr x.2.wait who) || (xc.any fun x=>mr x.2 who) || (xs.any fun x=>mr x.2.wait who))=g.waits who:=by
 unfold Gates.waits
 rw[yo (p:=fun m:eK=>mr m.wait who) h1,yo (p:=fun m:List eW=>mr m who) h2,yo (p:=fun m:k6=>mr m.wait who) h3]
theorem yq{l:List eW}{c:Int}(h:l.length=0):aM l c=(⟨0,0⟩,false,l):=by unfold aM;rw[if_pos h]
theorem sH{l:List eW}{c:Int}(h:¬l.length=0):aM l c=(l.getD (pick c l.length) ⟨0,0⟩,true,l.eraseIdx (pick c l.length)):=by unfold aM;rw[if_neg h]
theorem fN{α:Type}{l:List α}{i:Int}(h:¬(0≤i∧i<(l.length:Int))):aL l i=none:=by
 unfold aL
 split
 ·rfl
 ·rw[List.getElem?_eq_none];omega
theorem cQ{α:Type}{l:List α}{i:Int}(h:0≤i∧i<(l.length:Int)):∃ x,l[i.toNat]?=some x∧aL l i=some x:=by
 obtain⟨x,hx⟩:=ai (show i.toNat<l.length by omega)
 exact⟨x,hx,by unfold aL;rw[if_neg (by omega),hx]⟩
theorem ck{α:Type}{l:List α}{i:Int}{x:α}(h:aL l i=some x):0≤i∧i<(l.length:Int)∧l[i.toNat]?=some x:=by
 unfold aL at h
 split at h
 ·cases h
 ·have:=(List.getElem?_eq_some_iff.1 h).1
  exact⟨by omega,by omega,h⟩
theorem sI{v:Value}{n k:Nat}{i:Int}(h:¬(0≤i∧i<(n:Int))):Lc v n k i = .pointer none:=by unfold Lc;rw[if_neg h]
theorem fe{v:Value}{n k:Nat}{i:Int}(h:0≤i∧i<(n:Int)):Lc v n k i = .pointer (some ⟨blk v,ek v+i.toNat * k,none⟩):=by unfold Lc;rw[if_pos h]
def JU:eK:=⟨[],false,0⟩
theorem yr{m:eK}{who:Int}(h:m.held=true):m.lock who=(false,{m with wait:=m.wait++[⟨who,0⟩] }):=by unfold eK.lock;rw[if_pos h]
theorem yt{m:eK}{who:Int}(h:m.held=false):m.lock who=(true,{m with held:=true,owner:=who }):=by unfold eK.lock;rw[if_neg (by rw[h];simp)]
def Gates.rowOf(g:Gates)(kind n:Int):List eW :=
 if kind=1 then ((aL g.dn n).getD JU).wait else if kind=2 then (aL g.hJ n).getD [] else if kind=3 then ((aL g.ez n).getD ⟨[],0⟩).wait else []
end Go.SLYtpbjdoplfgeliaaGreat
namespace Go.SLYtpbjdoplfgeliaaGreat
open Go Go.RowKit
structure qP(N:Nat)(L:List (Nat×Option Value))(D:List Deferred)(a:Act):Prop where
 size:a.tmps.size=N
 get:∀ k v,look L k=some v→a.tmps[k]?=some v
 defers:a.defers=D
theorem qP.env{N:Nat}{L:List (Nat×Option Value)}{D:List Deferred}{a:Act}(h:qP N L D a):Env N L (dc a []):=⟨h.size,h.get,rfl⟩
theorem oz(a:Act)(ds:List Deferred):(dc a ds).eval=a.eval:=by funext x;cases x <;> rfl
theorem qP.put{N:Nat}{L:List (Nat×Option Value)}{D:List Deferred}{a:Act}(h:qP N L D a){d:Nat}(hd:d<N)(v:Value):qP N ((d,some v)::L) D (a.put (some d) v) :=
 ⟨(h.env.put hd v).size,(h.env.put hd v).get,h.defers⟩
section
variable{P:Program}{W:World}{N:Nat}{Q:Exit→Act→World→Prop}{L:List (Nat×Option Value)}{H K R:List aa}{O:Array Oper}{T:TypeId}{rest:List Oper}{D:List Deferred}{ks:List Nat}
theorem GW{o:Oper}{a:Act}{w:World}{Kp Kp':Act→World→Prop}{Q':Exit→Act→World→Prop}(h:∀ ds u w',Kp ((dc a ds).put o.dst u) w'→Kp' ((dc a (ds++a.defers)).put o.dst u) w')(hh:o.wp P (dc a []) w Kp QF):o.wp P a w Kp' Q':=by
 unfold Oper.wp at *
 rw[oz] at hh
 generalize (execOp a.eval o).run P w=r at *
 have h0:=h []
 rw[List.nil_append,show dc a a.defers=a from rfl] at h0
 cases r with
 | ok n w' =>
  cases n <;> simp only[Oper.upon] at hh ⊢
  case value v=>exact h0 _ _ hh
  case skip=>exact h0 _ _ hh
  case enter f args =>
   refine Calls.mono hh (fun e w'' he=>?_)
   cases e with
   | returned v=>exact h0 _ _ he
   | panicked c=>exact he.elim
   | outgrown=>obtain⟨_,_,hf⟩:=he;exact hf.elim
  case row r' args=>exact Rows.mono hh (fun v w'' he=>h0 _ _ he)
  case defer d=>exact h [d] undef w' hh
 | halt x w'=>cases x <;> simp only[Oper.upon] at hh ⊢ <;> exact hh.elim
theorem af.d{o:Oper}{k:List (Nat×Option Value)→List aa→Prop}{a:Act}{w:World}{Kp:Act→World→Prop}{Q':Exit→Act→World→Prop}(hd:af P W N o L H k)(ha:qP N L D a)(hs:Sat W w (seps H))(h:∀ L' H',k L' H'→ ∀ a' w',qP N L' D a'→Sat W w' (seps H')→Kp a' w'):o.wp P a w Kp Q':=by
 refine GW (Kp:=fun a' w'=>∃ L' H',k L' H'∧Env N L' a'∧Sat W w' (seps H')) (fun ds u w' ⟨L',H',hk,he,hs'⟩=>?_) (hd _ w ha.env hs _ fun L' H' hk a' w' ha' hs'=>⟨L',H',hk,ha',hs'⟩)
 have e:((dc a ds).put o.dst u).defers=ds:=by cases o.dst <;> rfl
 rw[he.defers] at e
 subst e
 refine h L' H' hk _ w' ⟨?_,fun k v hv=>?_,?_⟩ hs'
 ·have:=he.size;cases ho:o.dst <;> rw[ho] at this <;> exact this
 ·have:=he.get k v hv;cases ho:o.dst <;> rw[ho] at this <;> exact this
 ·rw[List.nil_append];cases o.dst <;> exact ha.defers
theorem Y.d{op:Op}{v:Value}(hy:Y P W N op T L H v)(dst:Option Tmp)(pos:String)(after:Array Edge)(guard:Option (Nat×Bool)){a:Act}{w:World}(ha:qP N L D a)(hs:Sat W w (seps H)):(execOp a.eval ⟨dst,op,T,pos,after,guard⟩).run P w = .ok (.value v) w:=by
 have:=hy dst pos after guard _ w ha.env hs
 rwa [oz] at this
def tV(W:World)(N:Nat)(D:List Deferred)(Q:Exit→Act→World→Prop)(e:Exit)(L:List (Nat×Option Value))(H:List aa):Prop:=∀ a w,qP N L D a→Sat W w (seps H)→Q e a w
def lI(P:Program)(W:World)(N:Nat)(D:List Deferred)(Q:Exit→Act→World→Prop)(c:Code)(L:List (Nat×Option Value))(H:List aa):Prop:=∀ a w,qP N L D a→Sat W w (seps H)→c.wp P Q a w
def fO(P:Program)(W:World)(N:Nat)(D:List Deferred)(O:Array Oper)(Q:Exit→Act→World→Prop)(ops:List Oper)(L:List (Nat×Option Value))(H:List aa):Prop:=∀ a w,qP N L D a→Sat W w (seps H)→wpList P O Q ops a w
def fA(P:Program)(W:World)(N:Nat)(D:List Deferred)(K:List aa)(O:Array Oper)(Q:Exit→Act→World→Prop)(ks:List Nat)(ops:List Oper)(L:List (Nat×Option Value))(H:List aa):Prop:=∀ a w,qP N L D a→Sat W w (seps H)→wpKL P O (fun w=>Sat W w (seps K)) Q ks ops a w
theorem aR.LX{x:Operand}{f:FuncId}{us cap:Array Value}{ts:Array TypeId}{pos:String}{after:Array Edge}(hx:ev L x=some (.func (.func f) us cap))(k:fO P W N [⟨.fn (.func f) cap,us⟩] O Q rest L H):aR P W N O Q (⟨none,.defer ⟨.value x, #[],ts⟩,T,pos,after,none⟩::rest) L H:=fun a w ha hs=>wpList_plain rfl fun Kp hK=>by
 unfold Oper.wp
 have hr:(execOp a.eval ⟨none,.defer ⟨.value x, #[],ts⟩,T,pos,after,none⟩).run P w = .ok (.defer ⟨.fn (.func f) cap,us⟩) w:=by
  simp[execOp,resolve,ha.eval hx,Deferred.ofValue]
 rw[hr]
 simp only[Oper.upon]
 exact hK _ _ (k _ w ⟨ha.size,ha.get,by simp[Act.put,ha.defers]⟩ hs)
theorem tV.iK{c:Code}(k:lI P W N D Q c L H):tV W N D (Exit.then (c.wp P Q) Q) .normal L H:=k
theorem lI.seq{x y:Code}(k:lI P W N D (Exit.then (y.wp P Q) Q) x L H):lI P W N D Q (.seq x y) L H:=fun a w ha hs=>wp_seq (k a w ha hs)
theorem lI.region{id:Nat}{l:List Oper}(k:fO P W N D l.toArray Q l L H):lI P W N D Q (.region id l.toArray false) L H:=fun a w ha hs=>wp_region_lit (k a w ha hs)
theorem lI.draw{id:Nat}{l:List Oper}(K:List aa)(ks:List Nat)(hm:P.follows .mixedOrders=true)(hB:sC l ks=true)(h:fA P W N D K l.toArray Q ks l L H):lI P W N D Q (.region id l.toArray true) L H :=
 fun a w ha hs=>rG (C:=fun w=>Sat W w (seps K)) ks hm hB (h a _ ha hs.drew)
theorem lI.ret(k:tV W N D Q .ret L H):lI P W N D Q .ret L H:=fun a w ha hs=>wp_ret (k a w ha hs)
theorem fO.nil(k:tV W N D Q .normal L H):fO P W N D O Q [] L H:=fun a w ha hs=>wpList_nil (k a w ha hs)
theorem fO.y{op:Op}{pos:String}{after:Array Edge}{d:Nat}{v:Value}(hN:Nat.blt d N=true)(hy:Y P W N op T L H v)(k:fO P W N D O Q rest ((d,some v)::L) H) :
  fO P W N D O Q (⟨some d,op,T,pos,after,none⟩::rest) L H:=fun a w ha hs =>
 wpList_plain rfl fun Kp hK=>by
  unfold Oper.wp
  rw[hy.d _ _ _ _ ha hs]
  exact hK _ _ (k _ w (ha.put (Nat.blt_eq.mp hN) v) hs)
theorem fO.aj{o:Oper}{k:List (Nat×Option Value)→List aa→Prop}(hg:o.guard=none)(hd:af P W N o L H k)(h:∀ L' H',k L' H'→fO P W N D O Q rest L' H'):fO P W N D O Q (o::rest) L H:=fun a w ha hs =>
 wpList_plain hg fun Kp hK=>hd.d ha hs fun L' H' hk a' w' ha' hs'=>hK _ _ (h L' H' hk a' w' ha' hs')
theorem fA.nil(h:tV W N D Q .normal L H):fA P W N D K O Q ks [] L H:=fun a w ha hs=>by cases ks <;> exact h a w ha hs
theorem fA.k{op:Op}{pos:String}{after:Array Edge}{d:Nat}{v:Value}(hN:Nat.blt d N=true)(hK:∀ w,Sat W w (seps H)→Sat W w (seps K))(hy:Y P W N op T L K v)(h:fA P W N D K O Q ks rest ((d,some v)::L) H) :
  fA P W N D K O Q (0::ks) (⟨some d,op,T,pos,after,none⟩::rest) L H:=fun a w ha hs=>by
 simp only[wpKL]
 exact⟨hK w hs,v,.inl ⟨bo rfl,fun w' hs'=>hy.d _ _ _ _ ha hs'⟩,h _ w (ha.put (Nat.blt_eq.mp hN) v) hs⟩
theorem fA.s{op:Op}{pos:String}{after:Array Edge}{d:Nat}{v:Value}(hN:Nat.blt d N=true)(hy:Y P W N op T L H v)(h:fA P W N D K O Q ks rest ((d,some v)::L) H) :
  fA P W N D K O Q (1::ks) (⟨some d,op,T,pos,after,none⟩::rest) L H:=fun a w ha hs=>by
 simp only[wpKL]
 exact⟨v,.inl ⟨bo rfl,fun w' e=>by subst e;exact hy.d _ _ _ _ ha hs⟩,h _ w (ha.put (Nat.blt_eq.mp hN) v) hs⟩
theorem fA.d2{o:Oper}{k:List (Nat×Option Value)→List aa→Prop}(hg:o.guard=none)(hK:∀ w,Sat W w (seps H)→Sat W w (seps K))(hd:af P W N o L H k)(hK':∀ L' H',k L' H'→ ∀ w,Sat W w (seps H')→Sat W w (seps K))(h:∀ L' H',k L' H'→fA P W N D K O Q ks rest L' H') :
  fA P W N D K O Q (2::ks) (o::rest) L H:=fun a w ha hs=>by
 simp only[wpKL]
 refine⟨hK w hs,?_⟩
 rw[if_pos (bo hg)]
 exact hd.d ha hs fun L' H' hk a' w' ha' hs'=>⟨hK' L' H' hk w' hs',h L' H' hk a' w' ha' hs'⟩
theorem fA.d3{o:Oper}{k:List (Nat×Option Value)→List aa→Prop}(hg:o.guard=none)(hd:af P W N o L H k)(h:∀ L' H',k L' H'→fA P W N D K O Q ks rest L' H') :
  fA P W N D K O Q (3::ks) (o::rest) L H:=fun a w ha hs=>by
 simp only[wpKL]
 rw[if_pos (bo hg)]
 exact hd.d ha hs fun L' H' hk a' w' ha' hs'=>h L' H' hk a' w' ha' hs'
theorem fO.N3{As:List aa}(t:aw H As R)(k:fO P W N D O Q rest L (As++R)):fO P W N D O Q rest L H:=fun a w ha hs=>k a w ha (t.sat hs)
theorem fO.mem{ops:List Oper}{H':List aa}(h:∀ w,Sat W w (seps H)→Sat W w (seps H'))(k:fO P W N D O Q ops L H'):fO P W N D O Q ops L H:=fun a w ha hs=>k a w ha (h w hs)
theorem fO.cM{ops:List Oper}{p:Prop}(h:∀ w,Sat W w (seps H)→p)(k:p→fO P W N D O Q ops L H):fO P W N D O Q ops L H:=fun a w ha hs=>k (h w hs) a w ha hs
theorem fO.LY{f:FuncId}{xs:Array Operand}{ts:Array TypeId}{pos:String}{after:Array Edge}{dst:Option Nat}{args:List Value}{pre:List aa}{X:Type}{en:X→Ending}{fact:X→Prop}{post:X→List aa}(hdst:∀ d,dst=some d→Nat.blt d N=true)
  (hc:∀ args w,(callFunc f args).run P w = .ok (.enter f args) w) (hx:evs L xs.toList=some args) (hfn:EH P W f args pre X en fact post) (ht:aw H pre R) (hno:∀ x,en x≠.outgrown)
  (h1:∀ x v,en x = .returned v→fact x→fO P W N D O Q rest (match dst with | some d=>(d,some v)::L | none=>L) (post x++R)) (h2:∀ x c,en x = .panicked c→fact x→tV W N D Q (.panic c) L (post x++R)) :
  fO P W N D O Q (⟨dst,.call ⟨.value (.func f),xs,ts⟩,T,pos,after,none⟩::rest) L H:=fun a w ha hs=>wpList_plain rfl fun Kp hK=>by
 have e:xs.map a.eval=args.toArray:=by
  rw[← oz a [], ← ha.env.nY hx, ← List.map_toArray]
 have hs:=ht.sat hs
 rw[ah] at hs
 unfold Oper.wp
 have hr:(execOp a.eval ⟨dst,.call ⟨.value (.func f),xs,ts⟩,T,pos,after,none⟩).run P w = .ok (.enter f args.toArray) w:=by
  simp[execOp,resolve,Act.eval,Deferred.ofValue,invoke,e,hc]
 rw[hr]
 simp only[Oper.upon]
 refine(hfn _ w hs).mono fun en' w' ⟨x,he,hf,hs'⟩=>?_
 rw[← ah] at hs'
 subst he
 cases e2:en x with
 | returned v =>
  have h:=h1 x v e2 hf
  cases dst with
  | none=>exact hK _ _ (h _ _ ⟨ha.size,ha.get,ha.defers⟩ hs')
  | some d=>exact hK _ _ (h _ _ (ha.put (Nat.blt_eq.mp (hdst d rfl)) _) hs')
 | panicked c=>exact h2 x c e2 hf _ _ ha hs'
 | outgrown=>exact absurd e2 (hno x)
/-! a region in which a call panics: all that is read comes first -/
def Dn(P:Program)(W:World)(N:Nat)(K:List aa)(O:Array Oper)(Q:Exit→Act→World→Prop)(fuel:Nat)(li:Array Bool)(L:List (Nat×Option Value))(H:List aa):Prop :=
 ∀ a w,Env N L a→Sat W w (seps H)→wpAnyH P .any O Q (fun w=>Sat W w (seps K)) fuel li a w
theorem ar.held{id:Nat}{l:List Oper}(K:List aa)(hm:P.follows .mixedOrders=true)(h:Dn P W N K l.toArray Q l.toArray.size (Array.replicate l.toArray.size false) L H):ar P W N Q (.region id l.toArray true) L H:=fun a w ha hs=>wp_region_held hm (h a _ ha hs.drew)
def Ng(Q:Exit→Act→World→Prop):Prop:=∀ c d v a w,Q (.panic c) (a.put (some d) v) w→Q (.panic c) a w
theorem Dn.take(i:Nat){op:Op}{pos:String}{after:Array Edge}{d fuel:Nat}{li:Array Bool}{v:Value}(hi:O[i]?=some ⟨some d,op,T,pos,after,none⟩)(hs:Region.noSelect O=true)(hf:Region.free .any O li i=true)(hr:(Region.ready .any O li).contains i=true)(hQ:Ng Q)(hN:Nat.blt d N=true)
  (hK:∀ w,Sat W w (seps H)→Sat W w (seps K)) (hy:Y P W N op T L K v) (h:Dn P W N K O Q fuel (li.setIfInBounds i true) ((d,some v)::L) H):Dn P W N K O Q (fuel+1) li L H:=fun a w ha hs' =>
 wpAnyH_take hi hs hf hr (fun c a w=>hQ c d v a w) (.inl ⟨bo rfl,fun w' hw'=>hy _ _ _ _ a w' ha hw'⟩) (hK w hs') (h _ w (ha.put (Nat.blt_eq.mp hN) v) hs')
theorem Dn.Nh(i:Nat){f:FuncId}{xs:Array Operand}{ts:Array TypeId}{pos:String}{after:Array Edge}{d fuel:Nat}{li:Array Bool}{args:List Value}{pre:List aa}{X:Type}{en:X→Ending}{fact:X→Prop}{post:X→List aa}(hi:O[i]?=some ⟨some d,.call ⟨.value (.func f),xs,ts⟩,T,pos,after,none⟩)(hr:Region.ready .any O li=[i])
  (hc:∀ args w,(callFunc f args).run P w = .ok (.enter f args) w) (hx:evs L xs.toList=some args) (hfn:EH P W f args pre X en fact post) (ht:aw H pre R) (hp:∀ x, ∃ c,en x = .panicked c)
  (h2:∀ x c,en x = .panicked c→fact x→bA W N Q (.panic c) L (post x++R)):Dn P W N K O Q (fuel+1) li L H:=fun a w ha hs=>by
 refine wpAnyH_all hr (by simp) fun j hj=>?_
 obtain rfl:j=i:=by simpa using hj
 have e:xs.map a.eval=args.toArray:=by
  rw[← ha.nY hx, ← List.map_toArray]
 have hs:=ht.sat hs
 rw[ah] at hs
 unfold wpOp
 rw[hi]
 simp only
 rw[if_pos (bo rfl)]
 left
 unfold Oper.wp
 have hr:(execOp a.eval ⟨some d,.call ⟨.value (.func f),xs,ts⟩,T,pos,after,none⟩).run P w = .ok (.enter f args.toArray) w:=by
  simp[execOp,resolve,Act.eval,Deferred.ofValue,invoke,e,hc]
 rw[hr]
 simp only[Oper.upon]
 refine(hfn _ w hs).mono fun en' w' ⟨x,he,hf,hs'⟩=>?_
 rw[← ah] at hs'
 subst he
 obtain⟨c,e2⟩:=hp x
 rw[e2]
 exact h2 x c e2 hf _ _ ha hs'
/-! what the model stands in for -/
theorem Y.ext {f : FuncId} {fn : Func} {e : Array Value → Sem Value} {xs : Array Operand} {ts : Array TypeId} {args : List Value} {v : Value} (hf : P.funcs[f]? = some fn) (hname : (fn.name == "runtime.NumGoroutine") = false) (hb : fn.body.isNone = true) (hn : Extern.findNext fn = none) (he : Extern.find fn = some e)
  (hx:evs L xs.toList=some args) (h:∀ w,(e args.toArray).run P w = .ok v w):Y P W N (.call ⟨.value (.func f),xs,ts⟩) T L H v:=fun dst pos after guard a w ha hs=>by
 have e2:xs.map a.eval=args.toArray:=by
  rw[← ha.nY hx, ← List.map_toArray]
 simp[execOp,resolve,Act.eval,Deferred.ofValue,invoke,e2,run_callFunc_extern hf hname hb hn he,h]
/-! numbers with a point -/
def kO(m n:Nat):Option Ordering:=Ieee.double.order m n
theorem Y.Ni{xT yT:TypeId}{x y:Operand}{m n:Nat}(hx:ev L x=some (.float .f64 m))(hy:ev L y=some (.float .f64 n)):Y P W N (.binOp .lss xT x y yT) T L H (.bool (kO m n == some .lt)):=Y.bin hx hy fun w=>rfl
theorem Y.Oh{xT yT:TypeId}{x y:Operand}{m n:Nat}(hx:ev L x=some (.float .f64 m))(hy:ev L y=some (.float .f64 n)):Y P W N (.binOp .geq xT x y yT) T L H (.bool (kO m n == some .gt || kO m n == some .eq)):=Y.bin hx hy fun w=>rfl
theorem Y.Oi{xT yT:TypeId}{x y:Operand}{m n:Nat}(hx:ev L x=some (.float .f64 m))(hy:ev L y=some (.float .f64 n))(hg:∀ w,(eqGuard .neq xT x y (.float .f64 m) (.float .f64 n)).run P w = .ok () w):Y P W N (.binOp .neq xT x y yT) T L H (.bool (kO m n != some .eq)):=Y.bin hx hy fun w=>by
 rw[Sem.run_bind,hg];rfl
def Nj(o:Option Nat)(r:Nat):Prop:=match o with | some q=>r=q | none=>(kO r r == some .eq)=false
theorem JV(t:Nat):(kO ((t % 2) * 2 ^ 63+0x7ff0000000000000+1+(t / 2) % (2 ^ 52-1)) ((t % 2) * 2 ^ 63+0x7ff0000000000000+1+(t / 2) % (2 ^ 52-1)) == some .eq)=false:=by
 have h1:t % 2<2:=Nat.mod_lt _ (by decide)
 have h2:(t / 2) % (2 ^ 52-1)<2 ^ 52-1:=Nat.mod_lt _ (by decide)
 generalize t % 2=s at *
 generalize (t / 2) % (2 ^ 52-1)=q at *
 have hr:(s * 2 ^ 63+0x7ff0000000000000+1+q) % Ieee.double.signWeight=0x7ff0000000000001+q:=by
  have:Ieee.double.signWeight=2 ^ 63:=by decide
  rw[this];omega
 have hread:∃ b f,Ieee.double.read (s * 2 ^ 63+0x7ff0000000000000+1+q) = .nan b f:=by
  unfold Ieee.Format.read
  simp only[hr]
  have e1:Ieee.double.binade=4503599627370496:=by decide
  have e2:Ieee.double.infRung=9218868437227405312:=by decide
  rw[e1,e2,if_neg (by omega),if_neg (by omega),if_neg (by omega)]
  exact⟨_,_,rfl⟩
 obtain⟨b,f,e⟩:=hread
 unfold kO Ieee.Format.order
 rw[e]
 rfl
theorem af.JW{op:BinOp}{xT yT:TypeId}{x y:Operand}{pos:String}{after:Array Edge}{guard:Option (Nat×Bool)}{d m n:Nat}(o:Option Nat)(hN:Nat.blt d N=true)(hx:ev L x=some (.float .f64 m))(hy:ev L y=some (.float .f64 n))
  (h:∀ w,(do eqGuard op xT x y (.float .f64 m) (.float .f64 n);binOp op xT (.float .f64 m) (.float .f64 n):Sem Value).run P w=(match o with | some r=>pure (.float .f64 r) | none=>do pure (.float .f64 (← choose (.nanBits .f64 m n))):Sem Value).run P w) :
  af P W N ⟨some d,.binOp op xT x y yT,T,pos,after,guard⟩ L H (fun L1 H1=>∃ r,Nj o r∧L1=(d,some (.float .f64 r))::L∧H1=H):=fun a w ha hs Kp hK=>by
 have hrun:∀ v w',(match o with | some r=>pure (.float .f64 r) | none=>do pure (.float .f64 (← choose (.nanBits .f64 m n))):Sem Value).run P w = .ok v w'→(execOp a.eval ⟨some d,.binOp op xT x y yT,T,pos,after,guard⟩).run P w = .ok (.value v) w':=fun v w' hv=>by
  simp only[execOp,ha.eval hx,ha.eval hy]
  have h2:=(h w).trans hv
  show((do eqGuard op xT x y (.float .f64 m) (.float .f64 n);binOp op xT (.float .f64 m) (.float .f64 n):Sem Value) >>= fun v=>pure (Next.value v)).run P w=_
  rw[Sem.run_bind,h2]
  rfl
 unfold Oper.wp
 cases o with
 | some r =>
  rw[hrun (.float .f64 r) w rfl]
  simp only[Oper.upon]
  exact hK _ _ ⟨r,rfl,rfl,rfl⟩ _ _ (ha.put (Nat.blt_eq.mp hN) _) hs
 | none =>
  have hq:(choose (.nanBits .f64 m n)).run P w = .ok ((Question.nanBits .f64 m n).cut (w.tape w.drawn (.nanBits .f64 m n))) w.drew:=by
   rw[run_choose_drew];simp[Question.forced]
  rw[hrun (.float .f64 ((Question.nanBits .f64 m n).cut (w.tape w.drawn (.nanBits .f64 m n)))) w.drew (by simp only[Sem.run_bind,hq,Result.andThen_ok,Sem.run_pure])]
  simp only[Oper.upon]
  refine hK _ _ ⟨_,?_,rfl,rfl⟩ _ _ (ha.put (Nat.blt_eq.mp hN) _) hs.drew
  show(kO _ _ == some .eq)=false
  simp only[Question.cut]
  exact JV _
theorem Y.toFloat{src dst':TypeId}{x:Operand}{j:IntKind}{n:Int}(h:∀ w,(convert src dst' (.int j n)).run P w = .ok (.float .f64 (FloatKind.f64.nearest n)) w)(hx:ev L x=some (.int j n)):Y P W N (.convert src dst' x) T L H (.float .f64 (FloatKind.f64.nearest n)):=fun dst pos after guard a w ha hs=>by
 simp only[execOp,ha.eval hx]
 exact bS (h w)
theorem Y.LZ{src dst':TypeId}{x:Operand}{j:IntKind}{n:Nat}{k:Int}(h:∀ w,(convert src dst' (.float .f64 n)).run P w = .ok (.int j k) w)(hx:ev L x=some (.float .f64 n)):Y P W N (.convert src dst' x) T L H (.int j k):=fun dst pos after guard a w ha hs=>by
 simp only[execOp,ha.eval hx]
 exact bS (h w)
end
end Go.SLYtpbjdoplfgeliaaGreat
namespace Go.SLYtpbjdoplfgeliaaGreat
open Go Go.RowKit
theorem z7(n:Nat):tQ (n:Int)=(kO n n != some .eq):=by
 unfold tQ O5 kO bne
 rw[Int.toNat_natCast]
theorem qQ(n:Nat):jF (n:Int)=if (kO n n != some .eq)=true then n8 else (n:Int):=by unfold jF;rw[z7]
theorem sJ{o:Option Nat}{r:Nat}(h:Nj o r):jF (r:Int)=EG o:=by
 cases o with
 | some q=>rw[show r=q from h];rfl
 | none =>
  have h:(kO r r == some .eq)=false:=h
  rw[qQ]
  unfold bne
  rw[h];rfl
theorem gB{a:Int}(h:0≤a):(kO a.toNat a.toNat != some .eq)=tQ a:=by
 rw[← z7,Int.toNat_of_nonneg h]
/-! from a number to a whole one -/
theorem GX:Ieee.double.read ym = .number false 4503599627370496 11:=by decide +kernel
theorem EI:Ieee.double.read zZ = .number true 4503599627370496 11:=by decide +kernel
open Ieee in
theorem GY(s:Bool)(n drop:Nat):Toward.zero.cut s n drop=n / 2 ^ min drop (n.log2+2):=by
 unfold Toward.cut
 simp[Nat.one_shiftLeft]
theorem L2{n drop b:Nat}(h:n≤b * 2 ^ drop):n / 2 ^ min drop (n.log2+2)≤b:=by
 rcases Nat.le_total drop (n.log2+2) with hd | hd
 ·rw[Nat.min_eq_left hd]
  exact Nat.div_le_of_le_mul (by rw[Nat.mul_comm];exact h)
 ·rw[Nat.min_eq_right hd]
  have:n<2 ^ (n.log2+2):=Nat.lt_of_lt_of_le Nat.lt_log2_self (Nat.pow_le_pow_right (by decide) (by omega))
  rw[Nat.div_eq_of_lt this]
  exact Nat.zero_le _
theorem L3{n drop b:Nat}(hb:0<b)(h:n<b * 2 ^ drop):n / 2 ^ min drop (n.log2+2)<b:=by
 rcases Nat.le_total drop (n.log2+2) with hd | hd
 ·rw[Nat.min_eq_left hd]
  exact Nat.div_lt_of_lt_mul (by rw[Nat.mul_comm];exact h)
 ·rw[Nat.min_eq_right hd]
  have:n<2 ^ (n.log2+2):=Nat.lt_of_lt_of_le Nat.lt_log2_self (Nat.pow_le_pow_right (by decide) (by omega))
  rw[Nat.div_eq_of_lt this]
  exact hb
open Ieee in
theorem JX(m:Nat)(i:Int):let base:=min i 11
  (m <<< (i-base).toNat<4503599627370496 <<< (11-base).toNat→m <<< i.toNat<9223372036854775808 * 2 ^ (-i).toNat)∧(m <<< (i-base).toNat≤4503599627370496 <<< (11-base).toNat→m <<< i.toNat≤9223372036854775808 * 2 ^ (-i).toNat):=by
 intro base
 simp only[Nat.shiftLeft_eq]
 have key:∃ c:Nat,0<c∧(m * 2 ^ i.toNat)=(m * 2 ^ (i-base).toNat) * c∧9223372036854775808 * 2 ^ (-i).toNat=4503599627370496 * 2 ^ (11-base).toNat * c:=by
  rcases(show i<0∨0≤i by omega) with hi | hi
  ·refine⟨1,by decide,?_,?_⟩
   ·rw[show base=i from by show min i 11=i;omega,show i.toNat=0 from by omega,show(i-i).toNat=0 from by omega];simp
   ·rw[show base=i from by show min i 11=i;omega,show(11-i).toNat=11+(-i).toNat from by omega,Nat.pow_add,Nat.mul_one, ← Nat.mul_assoc]
  ·refine⟨2 ^ base.toNat,Nat.pow_pos (by decide),?_,?_⟩
   ·rw[Nat.mul_assoc, ← Nat.pow_add,show(i-base).toNat+base.toNat=i.toNat from by show(i-min i 11).toNat+(min i 11).toNat=_;omega]
   ·rw[Nat.mul_assoc, ← Nat.pow_add,show(11-base).toNat+base.toNat=11 from by show(11-min i 11).toNat+(min i 11).toNat=_;omega,show(-i).toNat=0 from by omega]
 obtain⟨c,hc,e1,e2⟩:=key
 rw[e1,e2]
 exact⟨fun h=>Nat.mul_lt_mul_of_pos_right h hc,fun h=>Nat.mul_le_mul_right c h⟩
theorem L4(x y:Int):compare x y=if x<y then .lt else if x=y then .eq else .gt:=rfl
theorem L5{x y:Int}(h:y<x):compare x y = .gt:=by rw[L4,if_neg (by omega),if_neg (by omega)]
theorem L6{x y:Int}(h:x<y):compare x y = .lt:=by rw[L4,if_pos h]
theorem L7(x:Int):compare x x = .eq:=by rw[L4,if_neg (by omega),if_pos rfl]
theorem z8(m k:Nat):Ieee.signed false m k=((m <<< k:Nat):Int):=rfl
theorem GZ(m k:Nat):Ieee.signed true m k = -((m <<< k:Nat):Int):=rfl
open Ieee in
theorem EJ{n:Nat}(h1:(kO n n != some .eq)=false)(h2:(kO n ym == some .gt || kO n ym == some .eq)=false)(h3:(kO n zZ == some .lt)=false) :
  ∃ k,(FloatKind.f64.decode n).toInt .zero=some k∧IntKind.i64.min≤k∧k≤IntKind.i64.max:=by
 show ∃ k,(double.read n).toInt .zero=some k∧_
 unfold kO Format.order at h1 h2 h3
 rw[GX] at h2
 rw[EI] at h3
 have hmin:IntKind.i64.min = -9223372036854775808:=by decide
 have hmax:IntKind.i64.max=9223372036854775807:=by decide
 rw[hmin,hmax]
 cases hd:double.read n with
 | nan b f=>rw[hd] at h1;simp[Datum.order] at h1
 | infinity s =>
  rw[hd] at h2 h3
  cases s <;> simp[Datum.order] at h2 h3
 | number s m i =>
  rw[hd] at h2 h3
  simp only[Datum.order,Bool.or_eq_false_iff] at h2 h3
  refine⟨signed s (Toward.zero.cut s (m <<< i.toNat) (-i).toNat) 0,rfl,?_⟩
  rw[GY]
  obtain⟨c1,c2⟩:=JX m i
  cases s with
  | false =>
   have hlt:m <<< (i-min i 11).toNat<4503599627370496 <<< (11-min i 11).toNat:=by
    rcases Nat.lt_trichotomy (m <<< (i - min i 11).toNat) (4503599627370496 <<< (11 - min i 11).toNat) with h | h | h
    ·exact h
    ·exfalso
     rw[z8,z8,h,L7] at h2;simp at h2
    ·exfalso
     rw[z8,z8,L5 (by omega)] at h2;simp at h2
   have:=L3 (by decide) (c1 hlt)
   generalize (m <<< i.toNat) / 2 ^ min (-i).toNat ((m <<< i.toNat).log2+2)=q at *
   rw[z8,Nat.shiftLeft_zero]
   omega
  | true =>
   have hle:m <<< (i-min i 11).toNat≤4503599627370496 <<< (11-min i 11).toNat:=by
    rcases Nat.lt_or_ge (4503599627370496 <<< (11 - min i 11).toNat) (m <<< (i - min i 11).toNat) with h | h
    ·exfalso
     rw[GZ,GZ,L6 (by omega)] at h3;simp at h3
    ·exact h
   have:=L2 (c2 hle)
   generalize (m <<< i.toNat) / 2 ^ min (-i).toNat ((m <<< i.toNat).log2+2)=q at *
   rw[GZ,Nat.shiftLeft_zero]
   omega
theorem EK{P:Program}{n:Nat}{w:World}{k:Int}(h:(FloatKind.f64.decode n).toInt .zero=some k)(h1:IntKind.i64.min≤k)(h2:k≤IntKind.i64.max):(Conv.floatToInt .f64 n .i64).run P w = .ok (.int .i64 k) w:=by
 unfold Conv.floatToInt
 rw[h]
 simp only
 rw[if_pos ⟨h1,h2⟩]
 rfl
theorem G0(k:Int):IntKind.u64.wrap k=BG k:=by
 unfold BG
 rfl
end Go.SLYtpbjdoplfgeliaaGreat
namespace Go.SLYtpbjdoplfgeliaaGreat
open Go Go.RowKit
def iW(f:iZ):List Value:=[.int .i64 f.fn,.int .i64 f.pc,.int .u64 (f.aE.getD 0 0),.int .u64 (f.aE.getD 1 0),.int .u64 (f.aE.getD 2 0),.int .u64 (f.aE.getD 3 0),.int .u64 (f.aE.getD 4 0),.int .u64 (f.aE.getD 5 0),.int .u64 (f.aE.getD 6 0),.int .u64 (f.aE.getD 7 0)]
def wy(f:iZ)(v:Value):List Value:=[.int .i64 f.fn,.int .i64 f.pc,.int .u64 (f.aE.getD 0 0),.int .u64 (f.aE.getD 1 0),.int .u64 (f.aE.getD 2 0),.int .u64 (f.aE.getD 3 0),.int .u64 (f.aE.getD 4 0),.int .u64 (f.aE.getD 5 0),.int .u64 (f.aE.getD 6 0),.int .u64 (f.aE.getD 7 0),v]
def Ld(o:Option Ins):Value:=.tuple #[.agg (dM (o.getD Ins.z)).toArray,.bool o.isSome]
theorem JY{p:gn}{f:iZ}{fs:List (Value×List Ins)}{z:Value×List Ins}(hp:fs.map (·.2)=p.funcs)
  (h:(decide (f.fn<0) || decide ((fs.length:Int)≤f.fn) || decide (f.pc<0) || decide (((fs.getD f.fn.toNat z).2.length:Int)≤f.pc))=true) (_hz:z.2=[]):dZ p f=none:=by
 unfold dZ
 split
 ·rfl
 ·rename_i hn
  rw[← hp,List.getElem?_eq_none]
  simp only[Bool.or_eq_true,decide_eq_true_eq] at h
  rw[List.getD_eq_getElem?_getD,List.getElem?_map]
  rw[List.getD_eq_getElem?_getD] at h
  cases e:fs[f.fn.toNat]? with
  | none=>exact Nat.zero_le _
  | some x =>
   rw[e] at h
   have:=(List.getElem?_eq_some_iff.1 e).1
   simp only[Option.getD_some,Option.map_some] at h ⊢
   omega
theorem G3{p:gn}{f:iZ}{fs:List (Value×List Ins)}{x:Value×List Ins}{i:Ins}(hp:fs.map (·.2)=p.funcs)(h1:¬f.fn<0)(h2:¬f.pc<0)(hx:fs[f.fn.toNat]?=some x)(hi:x.2[f.pc.toNat]?=some i):dZ p f=some i:=by
 unfold dZ
 rw[if_neg (by omega), ← hp,List.getD_eq_getElem?_getD,List.getElem?_map,hx]
 exact hi
theorem mU{f:iZ}{v:Value}:∀ {n:Nat} (_:n<8),(wy f v)[2+n]?=some (.int .u64 (f.aE.getD n 0))
 | 0,_=>rfl
 | 1,_=>rfl
 | 2,_=>rfl
 | 3,_=>rfl
 | 4,_=>rfl
 | 5,_=>rfl
 | 6,_=>rfl
 | 7,_=>rfl
 | n+8,h=>absurd h (by omega)
theorem JZ{fn pc:Int}{a0 a1 a2 a3 a4 a5 a6 a7:Int}{v:Value}(x:Int):∀ {n:Nat} (_:n<8),(wy ⟨fn,pc,[a0,a1,a2,a3,a4,a5,a6,a7]⟩ v).set (2+n) (.int .u64 x)=wy ⟨fn,pc,[a0,a1,a2,a3,a4,a5,a6,a7].set n x⟩ v
 | 0,_=>rfl
 | 1,_=>rfl
 | 2,_=>rfl
 | 3,_=>rfl
 | 4,_=>rfl
 | 5,_=>rfl
 | 6,_=>rfl
 | 7,_=>rfl
 | n+8,h=>absurd h (by omega)
theorem BU{f:iZ}{v:Value}{n:Nat}(x:Int)(hn:n<8)(hl:f.aE.length=8):(wy f v).set (2+n) (.int .u64 x)=wy {f with aE:=f.aE.set n x } v:=by
 obtain⟨fn,pc,aE⟩:=f
 match aE,hl with
 | [a0,a1,a2,a3,a4,a5,a6,a7],_=>exact JZ x hn
def wz(t:Nat)(e:Int):List PanicEntry:=[{v:=.iface t (.agg #[.int .i64 e]),recovered:=false }]
structure oa(i:Ins):Prop where
 a:0≤i.a∧i.a<8
 b:0≤i.b∧i.b<8
 c:0≤i.c∧i.c<8
 n:0≤i.n∧i.n≤18446744073709551615
 j:i.op=16∨i.op=17→i.n≤256
structure Dp(f:iZ):Prop where
 l:f.aE.length=8
 pc:0≤f.pc∧f.pc≤1000000
 r:∀ n,0≤f.aE.getD n 0∧f.aE.getD n 0≤18446744073709551615
def doEnd(t:Nat)(o:Option (iZ×List Int)):Ending:=match o with | some _=>.returned (.tuple #[]) | none=>.panicked (wz t 6)
def Oj(b:Nat)(v:Value)(o:Option (iZ×List Int)):List aa:=match o with | some z=>[arr b 0 (wy z.1 v),sl eS 1 v z.2] | none=>[]
def fX(f:iZ)(m:List Int)(i:Ins):iZ×List Int×Int:=match mB f m i with | some (f',m')=>(f',m',0) | none=>(iZ.z,[],6)
section
variable{P:Program}{W:World}{N:Nat}{Q:Exit→Act→World→Prop}{L:List (Nat×Option Value)}{H K R:List aa}{O:Array Oper}{T:TypeId}{rest:List Oper}{D:List Deferred}{ks:List Nat}
theorem Y.J0{x:Operand}{v r:Value}{t u:TypeId}{c:Bool}(hx:ev L x=some v)(h:∀ w,(Instr.typeAssert v t u c).run P w = .ok r w):Y P W N (.typeAssert x t u c) T L H r:=fun dst pos after guard a w ha hs=>by
 simp only[execOp,ha.eval hx]
 exact bS (h w)
theorem EH.ok{f:FuncId}{args:List Value}{pre:List aa}{X:Type}{en:X→Ending}{fact:X→Prop}{post:X→List aa}(val:X→Value)(h:EH P W f args pre X en fact post)(he:∀ x,en x = .returned (val x)):Fn P W f args pre X val fact post:=fun F w hs =>
 (h F w hs).mono fun _ _ ⟨x,e1,e2,e3⟩=>⟨x,e1.trans (he x),e2,e3⟩
theorem Fn.L8{f:FuncId}{fn:Func}{c:Code}{args:List Value}{pre:List aa}{X:Type}{val:X→Value}{fact:X→Prop}{post:X→List aa}(hf:P.funcs[f]?=some fn)(hb:fn.body=some c)(hn:fn.ntmps=N)(ha:Nat.ble args.length N=true)
  (h:∀ F,ar P W N (bodyPostD P fn (fun e w'=>∃ x,e = .returned (val x)∧fact x∧Sat W w' (sep (seps (post x)) F))) c (enum 0 args) (pre++[F])):Fn P W f args pre X val fact post:=fun F w hs=>by
 have hle:args.length≤N:=Nat.ble_eq.mp ha
 refine calls_of_wp_defers hf hb (h F _ w ⟨?_,fun k v hv=>?_,rfl⟩ ?_)
 ·simp[hn];omega
 ·obtain⟨_,h2⟩:=kE args 0 k v hv
  have hk:k<args.length:=by
   have:=(List.getElem?_eq_some_iff.1 h2).1;simpa using this
  show(args.toArray++Array.replicate (fn.ntmps-args.toArray.size) undef)[k]?=some v
  rw[Array.getElem?_append_left (by simpa using hk)]
  simpa using h2
 ·rw[ah];simp only[seps];rw[aK];exact hs
theorem af.J1{α:Type}{enc:α→List Value}{k b n c':Nat}{x y:Operand}{t t2 e ty:TypeId}{u:Value}{xs ys:List α}{pos:String}{after:Array Edge}{guard:Option (Nat×Bool)}{d:Nat}(hN:Nat.blt d N=true)(hu:P.underlying t=some (.slice e))(hz:∀ w,(sizeOf e).run P w = .ok k w)
  (hx:ev L x=some (.slice (some ⟨b,0,none⟩) n c')) (hy:ev L y=some u) (hr:Rd W H enc k u ys) (ht:Take H (sl enc k (.slice (some ⟨b,0,none⟩) n c') xs) R) (hl:xs.length=n) (hl2:ys.length=n) (hone:∀ y∈ys, ∀ c∈enc y,c.oneCell'=true) :
  af P W N ⟨some d,.call ⟨.builtin .copy, #[x,y], #[t,t2]⟩,ty,pos,after,guard⟩ L H (fun L1 H1=>L1=(d,some (.int .i64 (n:Int)))::L∧H1=sl enc k (.slice (some ⟨b,0,none⟩) n c') ys::R):=by
 rcases Nat.eq_zero_or_pos n with h0 | h0
 ·subst h0
  obtain rfl:=List.eq_nil_of_length_eq_zero hl
  obtain rfl:=List.eq_nil_of_length_eq_zero hl2
  intro a w ha hs Kp hK
  have hrd:=hr w hs
  have hf:=hrd.Gu (P:=P) (m:=0) (Nat.zero_le _)
  obtain⟨⟨ua,ucap,hue,_⟩,_⟩:=hrd
  have hln:(Builtin.lenOf u).run P w = .ok 0 w:=by rw[hue];simp[Builtin.lenOf]
  have hrun:(execOp a.eval ⟨some d,.call ⟨.builtin .copy, #[x,y], #[t,t2]⟩,ty,pos,after,guard⟩).run P w = .ok (.value (.int .i64 ((0:Nat):Int))) w:=by
   simp[execOp,resolve,invoke,builtin,ha.eval hx,ha.eval hy,Builtin.copy_,run_underlying hu,hz,hln,goInt,hf,rows,storeCells]
  unfold Oper.wp
  rw[hrun]
  simp only[Oper.upon]
  rw[ht.seps] at hs
  exact hK _ _ ⟨rfl,rfl⟩ _ _ (ha.put (Nat.blt_eq.mp hN) _) hs
 ·have:=af.BK (P:=P) (W:=W) (N:=N) (L:=L) (H:=H) (R:=R) (ty:=ty) (pos:=pos) (after:=after) (guard:=guard) (t2:=t2) (d:=d) (x:=x) (y:=y) (t:=t) (i:=0) (b:=b) (len:=n) (cap:=c') (c':=c') (xs:=xs) (ys:=ys) hN hu hz (by simpa using hx) hy hr ht hl (Nat.zero_le _) h0 hone
  have e:min ys.length (n-0)=n:=by omega
  rw[e,List.take_zero,List.nil_append,Nat.zero_add,List.take_of_length_le (by omega),List.drop_of_length_le (by omega),List.append_nil] at this
  exact this
end
end Go.SLYtpbjdoplfgeliaaGreat
namespace Go.SLYtpbjdoplfgeliaaGreat
open Go Go.RowKit
def QC(R:Ending→FrameMode→World→Prop)(u:FrameMode):Exit→Act→World→Prop
 | .normal,a,w | .ret,a,w=>a.defers=[]∧R (.returned (.tuple #[])) u w
 | _,_,_=>False
section
variable{P:Program}{W:World}{N:Nat}{Q:Exit→Act→World→Prop}{L:List (Nat×Option Value)}{H K R:List aa}{O:Array Oper}{T:TypeId}{D:List Deferred}
theorem EL{args:List Value}(ha:Nat.ble args.length N=true):Env N (enum 0 args) {tmps:=args.toArray++Array.replicate (N-args.toArray.size) undef,defers:=[] }:=by
 have hle:args.length≤N:=Nat.ble_eq.mp ha
 refine⟨by simp;omega,fun k v hv=>?_,rfl⟩
 obtain⟨_,h2⟩:=kE args 0 k v hv
 have hk:k<args.length:=by
  have:=(List.getElem?_eq_some_iff.1 h2).1;simpa using this
 show(args.toArray++Array.replicate (N-args.toArray.size) undef)[k]?=some v
 rw[Array.getElem?_append_left (by simpa using hk)]
 simpa using h2
theorem mV{f:FuncId}{fn:Func}{rest:Code}{id d:Nat}{pos:String}{after:Array Edge}{args:List Value}{Rc:Ending→FrameMode→World→Prop}{u u2:FrameMode}{v:Value}{w:World}(hf:P.funcs[f]?=some fn)
  (hb:fn.body=some (.seq (.region id #[⟨some d,.call ⟨.builtin .recover, #[], #[]⟩,T,pos,after,none⟩] false) rest)) (hn:fn.ntmps=N) (ha:Nat.ble args.length N=true) (hd:Nat.blt d N=true) (hr:fn.results = #[])
  (hu:∀ (c:Frame) (cs:List Frame),c.mode=u→(recoverD (c::cs)=some (v,{c with mode:=u2 }::cs))∨(recoverD (c::cs)=none∧v = .nilIface∧u2=u))
  (hs:Sat W w (seps H)) (h:ar P W N (QC Rc u2) rest ((d,some v)::enum 0 args) H):CallsD P f args.toArray u w Rc:=by
 refine callsD_of_wpS hf hb fun c cs hc=>wpS_seq (wpS_region ?_)
 have henv:Env N ((d,some v)::enum 0 args) (({tmps:=args.toArray++Array.replicate (fn.ntmps-args.toArray.size) undef,defers:=[] }:Act).put (some d) v):=by
  rw[hn];exact(EL ha).put (Nat.blt_eq.mp hd) v
 have hw:=h _ w henv hs
 have hfin:rest.wpS P (bodyPostS P fn c cs Rc) (({tmps:=args.toArray++Array.replicate (fn.ntmps-args.toArray.size) undef,defers:=[] }:Act).put (some d) v) ({c with mode:=u2 }::cs) w:=by
  refine wpS_of_wp (wp_mono hw fun e a' w' hq=>?_)
  cases e with
  | normal=>exact⟨hq.1,u2,rfl,_,results_none hr _ _ _,hq.2⟩
  | ret=>exact⟨hq.1,u2,rfl,_,results_none hr _ _ _,hq.2⟩
  | exit id=>exact hq.elim
  | goto l=>exact hq.elim
  | panic c=>exact hq.elim
  | outgrown=>exact hq.elim
 have hlist:List.range (#[(⟨some d,.call ⟨.builtin .recover, #[], #[]⟩,T,pos,after,none⟩:Oper)]).size=[0]:=rfl
 rw[hlist]
 simp only[wpOpsS,List.getElem?_toArray,List.getElem?_cons_zero]
 rw[if_pos (bo rfl)]
 have hx:(execOp ({tmps:=args.toArray++Array.replicate (fn.ntmps-args.toArray.size) undef,defers:=[] }:Act).eval ⟨some d,.call ⟨.builtin .recover, #[], #[]⟩,T,pos,after,none⟩).run P w = .ok .recover w:=by
  simp[execOp,resolve,invoke,builtin]
 rw[hx]
 simp only
 rcases hu c cs hc with e | ⟨e,rfl,rfl⟩
 ·rw[e];exact hfin
 ·rw[e]
  have:({c with mode:=u2 }:Frame)=c:=by subst hc;rfl
  rw[this] at hfin
  exact hfin
theorem yu{xT:TypeId}{ms:Array (String×TypeId)}(hu:P.underlying xT=some (.interface ms))(w:World):(Op.equal xT .nilIface .nilIface).run P w = .ok true w:=by
 show(Op.equalIn (9999+1) xT _ _).run P w=_
 unfold Op.equalIn
 simp[run_underlying hu]
theorem vO{xT:TypeId}{ms:Array (String×TypeId)}{t:TypeId}{u:Value}(hu:P.underlying xT=some (.interface ms))(w:World):(Op.equal xT (.iface t u) .nilIface).run P w = .ok false w:=by
 show(Op.equalIn (9999+1) xT _ _).run P w=_
 unfold Op.equalIn
 simp[run_underlying hu]
theorem Y.Nk{xT yT:TypeId}{x:Operand}{ms:Array (String×TypeId)}(hu:P.underlying xT=some (.interface ms))(hx:ev L x=some .nilIface):Y P W N (.binOp .eql xT x (.const .nilIface) yT) T L H (.bool true) :=
 Y.bin hx rfl fun w=>by simp[eqGuard,binOp,yu hu]
theorem Y.Nl{xT yT:TypeId}{x:Operand}{t:TypeId}{u:Value}{ms:Array (String×TypeId)}(hu:P.underlying xT=some (.interface ms))(hx:ev L x=some (.iface t u)):Y P W N (.binOp .eql xT x (.const .nilIface) yT) T L H (.bool false) :=
 Y.bin hx rfl fun w=>by simp[eqGuard,binOp,vO hu]
theorem bA.Nn{Rc:Ending→FrameMode→World→Prop}{u:FrameMode}(h:∀ w,Sat W w (seps H)→Rc (.returned (.tuple #[])) u w):bA W N (QC Rc u) .normal L H:=fun _a w ha hs=>⟨ha.defers,h w hs⟩
theorem wA{fn:Func}{a:Act}{w:World}{t1 t2 t3 T1 T2 T3 b1 b2 b3:Nat}{cs:List Value}{v2 v3:Value}(ha:qP N L D a)(hs:Sat W w (seps H))(hr:fn.results = #[.cell t1 T1,.cell t2 T2,.cell t3 T3])(h1:look L t1=some (ptr b1))(h2:look L t2=some (ptr b2))(h3:look L t3=some (ptr b3))
  (g1:∀ w,(isAgg T1).run P w = .ok true w) (z1:∀ w,(sizeOf T1).run P w = .ok cs.length w) (g2:∀ w,(isAgg T2).run P w = .ok false w) (g3:∀ w,(isAgg T3).run P w = .ok false w) (c1:Cells W H b1 0 cs) (c2:Cell W H b2 0 v2) (c3:Cell W H b3 0 v3) :
  (results fn a.tmps).run P w = .ok (.tuple #[.agg cs.toArray,v2,v3]) w:=by
 have hl:=gv (P:=P) (w:=w) g1 z1 fun i v hv=>c1 i v hv w hs
 have hl2:(loadVar T2 ⟨b2,0,none⟩).run P w = .ok v2 w:=by simp[loadVar,g2,c2 w hs]
 have hl3:(loadVar T3 ⟨b3,0,none⟩).run P w = .ok v3 w:=by simp[loadVar,g3,c3 w hs]
 simp[results,hr,ha.get _ _ h1,ha.get _ _ h2,ha.get _ _ h3,ptr,asAddr,hl,hl2,hl3]
end
end Go.SLYtpbjdoplfgeliaaGreat
namespace Go.SLYtpbjdoplfgeliaaGreat
open Go Go.RowKit
def ss(v:Value)(l:List eK)(i:Nat):aa:=rJ (eh (blk v) (ek v+i * 3)) (fun m'=>ef v (l.set i m'))
def Aa(v:Value)(l:List k6)(i:Nat):aa:=rJ (hM (blk v) (ek v+i * 2)) (fun m'=>fy v (l.set i m'))
def EM(v:Value)(l:List (List eW))(i:Nat):aa:=rJ (iV (blk v) (ek v+i * 1)) (fun m'=>iH v (l.set i m'))
theorem pD{v:Value}{l:List eK}{i:Nat}{m:eK}(hm:l[i]?=some m):∀ h,ef v l h→seps [eh (blk v) (ek v+i * 3) m,ss v l i] h:=GR hm
theorem Dq{v:Value}{l:List k6}{i:Nat}{m:k6}(hm:l[i]?=some m):∀ h,fy v l h→seps [hM (blk v) (ek v+i * 2) m,Aa v l i] h:=GS hm
theorem Dr{v:Value}{l:List (List eW)}{i:Nat}{m:List eW}(hm:l[i]?=some m):∀ h,iH v l h→seps [iV (blk v) (ek v+i * 1) m,EM v l i] h:=GU hm
theorem tW{v:Value}{l:List eK}{i:Nat}(m':eK):∀ h,seps [eh (blk v) (ek v+i * 3) m',ss v l i] h→ef v (l.set i m') h:=qO m'
theorem tX{v:Value}{l:List k6}{i:Nat}(m':k6):∀ h,seps [hM (blk v) (ek v+i * 2) m',Aa v l i] h→fy v (l.set i m') h:=qO m'
theorem G4{v:Value}{l:List (List eW)}{i:Nat}(m':List eW):∀ h,seps [iV (blk v) (ek v+i * 1) m',EM v l i] h→iH v (l.set i m') h:=qO m'
theorem gP{α:Type}{l:List α}{i:Nat}{x:α}(h:l[i]?=some x):l.set i x=l:=by
 apply List.ext_getElem?
 intro j
 by_cases e:i=j
 ·subst e;rw[List.getElem?_set_self (List.getElem?_eq_some_iff.1 h).1,h]
 ·rw[List.getElem?_set_ne e]
theorem pE{v:Value}{l:List eK}{i:Nat}{m:eK}(hm:l[i]?=some m):∀ h,seps [eh (blk v) (ek v+i * 3) m,ss v l i] h→ef v l h:=fun h a=>by have:=tW m h a;rwa [gP hm] at this
theorem G5{v:Value}{l:List k6}{i:Nat}{m:k6}(hm:l[i]?=some m):∀ h,seps [hM (blk v) (ek v+i * 2) m,Aa v l i] h→fy v l h:=fun h a=>by have:=tX m h a;rwa [gP hm] at this
theorem fB{p:Prop}[Decidable p]{α:Type}{a:α}(h:(if p then some a else none).isNone=false):p:=by
 by_cases hp:p
 ·exact hp
 ·rw[if_neg hp] at h;cases h
theorem fP{p:Prop}[Decidable p]{α:Type}{a:α}(h:(if p then some a else none).isNone=true):¬p:=by
 intro hp
 rw[if_pos hp] at h;cases h
theorem Ab{p:Prop}[Decidable p]{α:Type}{a:α}(h:(!(if p then some a else none).isNone)=true):p:=fB (by simpa only[Bool.not_eq_true'] using h)
theorem BV{p:Prop}[Decidable p]{α:Type}{a:α}(h:(!(if p then some a else none).isNone)=false):¬p:=fP (by simpa only[Bool.not_eq_false'] using h)
section
variable{g:Gates}{who m c choice s:Int}{x:eK}{r:List eW}{y:k6}
theorem wB(h:¬(0≤m∧m<(g.dn.length:Int))):g.lock who m=(false,1,g):=by unfold Gates.lock;rw[fN h]
theorem rK(h:aL g.dn m=some x)(hb:(g.waits who || x.is who)=true):g.lock who m=(false,4,g):=by unfold Gates.lock;rw[h];simp only;rw[if_pos (by simpa using hb)]
theorem wC(h:aL g.dn m=some x)(hb:(g.waits who || x.is who)=false):g.lock who m=((x.lock who).1,0,{g with dn:=g.dn.set m.toNat (x.lock who).2 }):=by unfold Gates.lock;rw[h];simp only;rw[if_neg (by simpa using hb)]
theorem rL(h:¬(0≤m∧m<(g.dn.length:Int))):g.unlock who m choice=(0,false,1,g):=by unfold Gates.unlock;rw[fN h]
theorem pF(h:aL g.dn m=some x)(hb:x.is who=false):g.unlock who m choice=(0,false,5,g):=by unfold Gates.unlock;rw[h];simp only;rw[if_neg (by simpa using hb)]
theorem rM(h:aL g.dn m=some x)(hb:x.is who=true):g.unlock who m choice=((x.unlock choice).1,(x.unlock choice).2.1,0,{g with dn:=g.dn.set m.toNat (x.unlock choice).2.2 }):=by unfold Gates.unlock;rw[h];simp only;rw[if_pos hb]
theorem oA(h:¬(0≤m∧m<(g.dn.length:Int))):g.wait who c m choice=(0,false,1,g):=by unfold Gates.wait;rw[fN h]
theorem oB(h:¬(0≤c∧c<(g.hJ.length:Int))):g.wait who c m choice=(0,false,1,g):=by unfold Gates.wait;rw[fN h];cases aL g.dn m <;> rfl
theorem Ac(h:aL g.dn m=some x)(h2:aL g.hJ c=some r)(hb:g.waits who=true):g.wait who c m choice=(0,false,4,g):=by unfold Gates.wait;rw[h,h2];simp only;rw[if_pos hb]
theorem oC(h:aL g.dn m=some x)(h2:aL g.hJ c=some r)(hb:g.waits who=false)(ho:x.is who=false):g.wait who c m choice=(0,false,5,g):=by unfold Gates.wait;rw[h,h2];simp only;rw[if_neg (by rw[hb];simp),if_neg (by rw[ho];simp)]
theorem qR(h:aL g.dn m=some x)(h2:aL g.hJ c=some r)(hb:g.waits who=false)(ho:x.is who=true):g.wait who c m choice=((x.unlock choice).1,(x.unlock choice).2.1,0,{g with dn:=g.dn.set m.toNat (x.unlock choice).2.2,hJ:=g.hJ.set c.toNat (r++[⟨who,m⟩]) }):=by unfold Gates.wait;rw[h,h2];simp only;rw[if_neg (by rw[hb];simp),if_pos ho]
theorem rN{all:Bool}(h:¬(0≤c∧c<(g.hJ.length:Int))):g.signal c choice all=([],1,g):=by unfold Gates.signal;rw[fN h]
theorem rP{all:Bool}{z:List eW×List eK×List Int}(h2:aL g.hJ c=some r)(hz:sigLoop (if all=true then r.length else min r.length 1) (if all=true then 0 else choice) r g.dn []=z):g.signal c choice all=(z.2.2,0,{g with dn:=z.2.1,hJ:=g.hJ.set c.toNat z.1 }):=by unfold Gates.signal;rw[h2];simp only;rw[hz]
theorem wD(h:¬(0≤s∧s<(g.ez.length:Int))):g.down who s=(false,1,g):=by unfold Gates.down;rw[fN h]
theorem Ad(h:aL g.ez s=some y)(hb:g.waits who=true):g.down who s=(false,4,g):=by unfold Gates.down;rw[h];simp only;rw[if_pos hb]
theorem wF(h:aL g.ez s=some y)(hb:g.waits who=false)(hc:0<y.count):g.down who s=(true,0,{g with ez:=g.ez.set s.toNat {y with count:=y.count-1 } }):=by unfold Gates.down;rw[h];simp only;rw[if_neg (by rw[hb];simp),if_pos hc]
theorem rQ(h:aL g.ez s=some y)(hb:g.waits who=false)(hc:¬ 0<y.count):g.down who s=(false,0,{g with ez:=g.ez.set s.toNat {y with wait:=y.wait++[⟨who,0⟩] } }):=by unfold Gates.down;rw[h];simp only;rw[if_neg (by rw[hb];simp),if_neg hc]
theorem Ds(h:¬(0≤s∧s<(g.ez.length:Int))):g.up s choice=(0,false,1,g):=by unfold Gates.up;rw[fN h]
theorem wG(h:aL g.ez s=some y)(hb:(aM y.wait choice).2.1=true):g.up s choice=((aM y.wait choice).1.who,true,0,{g with ez:=g.ez.set s.toNat {y with wait:=(aM y.wait choice).2.2 } }):=by unfold Gates.up;rw[h];simp only;rw[if_pos hb]
theorem wH(h:aL g.ez s=some y)(hb:(aM y.wait choice).2.1=false)(hc:1048576≤y.count):g.up s choice=(0,false,2,g):=by unfold Gates.up;rw[h];simp only;rw[if_neg (by rw[hb];simp),if_pos hc]
theorem Dt(h:aL g.ez s=some y)(hb:(aM y.wait choice).2.1=false)(hc:¬ 1048576≤y.count):g.up s choice=(0,false,0,{g with ez:=g.ez.set s.toNat {y with count:=y.count+1 } }):=by unfold Gates.up;rw[h];simp only;rw[if_neg (by rw[hb];simp),if_neg hc]
end
theorem EN{l:List eW}{c:Int}(h:(aM l c).2.1=false):(aM l c).2.2=l:=by
 unfold aM at *
 split
 ·rfl
 ·rename_i hl;rw[if_neg hl] at h;cases h
def BW(r:List eW)(c:Int)(ms:List eK):Bool×eK:=(ms.getD (aM r c).1.mutex.toNat JU).lock (aM r c).1.who
theorem G6{n:Nat}{c:Int}{r:List eW}{ms:List eK}{out:List Int} :
  sigLoop (n+1) c r ms out=sigLoop n c (aM r c).2.2 (ms.set (aM r c).1.mutex.toNat (BW r c ms).2) (if (BW r c ms).1=true then out++[(aM r c).1.who] else out):=rfl
theorem kP{l:List eW}{c:Int}(h:l.length≠0):(aM l c).1∈l∧(aM l c).2.2.length+1=l.length∧(∀ w∈(aM l c).2.2,w∈l):=by
 rw[sH h]
 have hp:pick c l.length<l.length:=j7 (by omega)
 refine⟨List.mem_of_getElem? (getD_some hp),?_,fun w hw=>(List.eraseIdx_sublist _ _).mem hw⟩
 have:=List.length_eraseIdx_of_lt hp
 show(l.eraseIdx (pick c l.length)).length+1=_
 omega
theorem G7{m:eK}{who:Int}:(m.lock who).2.wait.length≤m.wait.length+1:=by
 unfold eK.lock
 split <;> simp
structure pG(r0:List eW)(ms0:List eK)(n0:Nat)(c:Int)(k:Nat)(r:List eW)(ms:List eK)(out:List Int):Prop where
 hk:k≤n0
 len:r.length+k=r0.length
 mem:∀ w∈r,w∈r0
 ml:ms.length=ms0.length
 mw:∀ m∈ms,m.wait.length≤1000000+k
 ol:out.length≤k
 eq:sigLoop n0 c r0 ms0 []=sigLoop (n0-k) c r ms out
theorem pG.zero{r0:List eW}{ms0:List eK}{n0:Nat}{c:Int}(h:∀ m∈ms0,m.wait.length≤1000000):pG r0 ms0 n0 c 0 r0 ms0 []:=⟨Nat.zero_le _,rfl,fun _ h=>h,rfl,h,Nat.le_refl _,rfl⟩
theorem pG.next{r0 r:List eW}{ms0 ms:List eK}{n0 k:Nat}{c:Int}{out:List Int}(h:pG r0 ms0 n0 c k r ms out)(hk:k<n0)(h0:n0≤r0.length) :
  pG r0 ms0 n0 c (k+1) (aM r c).2.2 (ms.set (aM r c).1.mutex.toNat (BW r c ms).2) (if (BW r c ms).1=true then out++[(aM r c).1.who] else out):=by
 have hl:=h.len
 obtain⟨h1,h2,h3⟩:=kP (l:=r) (c:=c) (by omega)
 refine⟨by omega,by omega,fun w hw=>h.mem w (h3 w hw),by rw[List.length_set];exact h.ml,fun m hm=>?_,?_,?_⟩
 ·rcases List.mem_or_eq_of_mem_set hm with e | e
  ·have:=h.mw m e;omega
  ·subst e
   unfold BW
   have:=G7 (m:=ms.getD (aM r c).1.mutex.toNat JU) (who:=(aM r c).1.who)
   have h5:(ms.getD (aM r c).1.mutex.toNat JU).wait.length≤1000000+k:=by
    rw[List.getD_eq_getElem?_getD]
    cases e:ms[(aM r c).1.mutex.toNat]? with
    | none=>exact Nat.zero_le _
    | some m=>exact h.mw m (List.mem_of_getElem? e)
   omega
 ·have:=h.ol
  split <;> simp <;> omega
 ·rw[h.eq,show n0-k=(n0-(k+1))+1 by omega,G6]
theorem pG.done{r0 r:List eW}{ms0 ms:List eK}{n0 k:Nat}{c:Int}{out:List Int}(h:pG r0 ms0 n0 c k r ms out)(hk:¬k<n0):sigLoop n0 c r0 ms0 []=(r,ms,out):=by
 rw[h.eq,show n0-k=0 by omega];rfl
end Go.SLYtpbjdoplfgeliaaGreat
namespace Go.SLYtpbjdoplfgeliaaGreat
open Go Go.RowKit
structure tY(t:Tub):Prop where
 w:t.words.length≤1000000
 p:t.hZ.length≤1000000
 g:t.gM.length≤1000000
section
variable{t:Tub}{who x w:Int}{r:List Int}{p:Ptr}{q:List Ptr}
theorem wI(h:t.waits who=true):t.put who x=(false,0,false,t):=by unfold Tub.put;rw[if_pos h]
theorem sK(h:t.waits who=false)(hg:t.gM=w::r):t.put who x=(true,w,true,{t with gM:=r }):=by unfold Tub.put;rw[if_neg (by rw[h];simp),hg]
theorem pH(h:t.waits who=false)(hg:t.gM=[])(hr:(t.words.length:Int)<t.room):t.put who x=(true,0,false,{t with words:=t.words++[x] }):=by unfold Tub.put;rw[if_neg (by rw[h];simp),hg];simp only;rw[if_pos hr]
theorem pI(h:t.waits who=false)(hg:t.gM=[])(hr:¬(t.words.length:Int)<t.room):t.put who x=(false,0,false,{t with hZ:=t.hZ++[⟨who,x⟩] }):=by unfold Tub.put;rw[if_neg (by rw[h];simp),hg];simp only;rw[if_neg hr]
theorem qS(h:t.waits who=true):t.get who=(0,false,0,false,t):=by unfold Tub.get;rw[if_pos h]
theorem get_none(h:t.waits who=false)(hg:t.words=[]):t.get who=(0,false,0,false,{t with gM:=t.gM++[who] }):=by unfold Tub.get;rw[if_neg (by rw[h];simp),hg]
theorem pJ(h:t.waits who=false)(hg:t.words=x::r)(hp:t.hZ=[]):t.get who=(x,true,0,false,{t with words:=r }):=by unfold Tub.get;rw[if_neg (by rw[h];simp),hg,hp]
theorem pK(h:t.waits who=false)(hg:t.words=x::r)(hp:t.hZ=p::q):t.get who=(x,true,p.who,true,{t with words:=r++[p.x],hZ:=q }):=by unfold Tub.get;rw[if_neg (by rw[h];simp),hg,hp]
end
theorem yw{α:Type}{l:List α}(h:¬l.length=0):∃ x r,l=x::r:=by
 cases l with
 | nil=>exact absurd rfl h
 | cons x r=>exact⟨x,r,rfl⟩
theorem BX{α:Type}{l:List α}(h:l.length=0):l=[]:=List.eq_nil_of_length_eq_zero h
section
variable{d:lj}{r:wh}{k:Int}
theorem Du(h:(decide (r.block<0) || decide ((d.blocks.length:Int)≤r.block))=true):d.ask r=(1,d):=by unfold lj.ask;rw[if_pos (by simpa using h)]
theorem G8(h:(decide (r.block<0) || decide ((d.blocks.length:Int)≤r.block))=false)(h2:d.wait.any (fun x=>decide (x.who=r.who))=true):d.ask r=(4,d):=by unfold lj.ask;rw[if_neg (by simpa using h),if_pos h2]
theorem G9(h:(decide (r.block<0) || decide ((d.blocks.length:Int)≤r.block))=false)(h2:d.wait.any (fun x=>decide (x.who=r.who))=false):d.ask r=(0,{d with wait:=d.wait++[r] }):=by unfold lj.ask;rw[if_neg (by simpa using h),if_neg (by rw[h2];simp)]
def yx:wh:=⟨0,0,false,0⟩
theorem qT(h:d.wait.length=0):d.done k=(⟨0,0,false,0⟩,0,false,d):=by unfold lj.done;rw[if_pos h]
theorem oD(h:¬d.wait.length=0)(hr:d.wait.getD (pick k d.wait.length) yx=r)(hw:r.write=true):d.done k=(r,0,true,{d with wait:=d.wait.eraseIdx (pick k d.wait.length),blocks:=d.blocks.set r.block.toNat r.x }):=by
 subst hr;unfold yx at *;unfold lj.done;rw[if_neg h];simp only;rw[if_pos hw]
theorem qU(h:¬d.wait.length=0)(hr:d.wait.getD (pick k d.wait.length) yx=r)(hw:r.write=false):d.done k=(r,d.blocks.getD r.block.toNat 0,true,{d with wait:=d.wait.eraseIdx (pick k d.wait.length) }):=by
 subst hr;unfold yx at *;unfold lj.done;rw[if_neg h];simp only;rw[if_neg (by rw[hw];simp)]
end
end Go.SLYtpbjdoplfgeliaaGreat
