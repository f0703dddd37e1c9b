/- Walks of functions, and what they compute. Conditions: none, this text proves no statement. -/
import Derived.Test.YthlllpngkljgfaaGreatH02
import Derived.Recover
import Derived.OrdersHeld
import Derived.Laws.Externs
import Derived.Laws.NewFold
namespace Go.SLYthlllpngkljgfaaGreat
open Go Go.RowKit
theorem D6{α:Type}{f:α→aa}{n:Nat}{x:α}(h:∀ h,emp h→f x h):∀ h,emp h→aD f (List.replicate n x) h:=by
 induction n with
 | zero=>intro h e;exact e
 | succ n ih =>
  intro g e
  rw[List.replicate_succ,fN]
  have:sep emp emp g:=by rw[jF];exact e
  exact ba h ih g this
theorem ax.Gq{α:Type}{H R As:List aa}{f:α→aa}{n:Nat}{x:α}(h:∀ h,emp h→f x h)(t:ax H As R):ax H (aD f (List.replicate n x)::As) R:=.conv (A:=seps []) (D6 h) (.ez .nil t)
theorem ij{α:Type}{enc:α→List Value}{k:Nat}{a:Option Addr}:∀ h,emp h→sl enc k (.slice a 0 0) ([]:List α) h:=fun _ e=>.inl ⟨⟨_,rfl⟩,rfl,e⟩
def xx(ps:List (Option Nat))(ts:List (Option bE)):Prop:=ps.length=ts.length∧(∀ (n:Nat) (t:bE),ts[n]?=some (some t)→ ∃ p,ps[n]?=some (some p))∧ ∀ n:Nat,ts[n]?=some none→ps[n]?=some none
theorem jb{ps:List (Option Nat)}{ts:List (Option bE)}:∀ h,aA ps ts h→xx ps ts:=fun h a =>
 ⟨sW a,fun _n _t e=>let ⟨p,hp,_⟩:=lW e h a;⟨p,hp⟩,fun _n e=>qe e h a⟩
theorem D7{ps:List (Option Nat)}{ts:List (Option bE)}{n p:Nat}{t:bE}(hp:ps[n]?=some (some p))(ht:ts[n]?=some (some t)):∀ h,aA ps ts h→ ∃ J,sep (arr p 0 (bj t)) J h:=fun h a=>by
 obtain⟨q,hq,a'⟩:=lW ht h a
 rw[hp] at hq
 cases hq
 exact⟨_,a'⟩
def MF(ps:List (Option Nat)):List Value :=
 [dO (ps.getD 0 none),dO (ps.getD 1 none),dO (ps.getD 2 none),dO (ps.getD 3 none),dO (ps.getD 4 none),dO (ps.getD 5 none),dO (ps.getD 6 none),dO (ps.getD 7 none),
  dO (ps.getD 8 none),dO (ps.getD 9 none),dO (ps.getD 10 none),dO (ps.getD 11 none),dO (ps.getD 12 none),dO (ps.getD 13 none),dO (ps.getD 14 none),dO (ps.getD 15 none)]
theorem Gr(ps:List (Option Nat)):∀ {n:Nat} (_:n<16),(MF ps)[n]?=some (dO (ps.getD n none))
 | 0,_=>rfl
 | 1,_=>rfl
 | 2,_=>rfl
 | 3,_=>rfl
 | 4,_=>rfl
 | 5,_=>rfl
 | 6,_=>rfl
 | 7,_=>rfl
 | 8,_=>rfl
 | 9,_=>rfl
 | 10,_=>rfl
 | 11,_=>rfl
 | 12,_=>rfl
 | 13,_=>rfl
 | 14,_=>rfl
 | 15,_=>rfl
 | n+16,h=>absurd h (by omega)
section
variable{fv sv pv:Value}{p:fM}{bt:Nat}{ps:List (Option Nat)}{vm:Value}{bg:Nat}{vt:Value}{bd bw:Nat}{vr:Value}
theorem eJ:∀ {n:Nat} (_:n<16),(fo fv sv pv p bt ps vm bg vt bd bw vr)[9+n]?=some (dO (ps.getD n none))
 | 0,_=>rfl
 | 1,_=>rfl
 | 2,_=>rfl
 | 3,_=>rfl
 | 4,_=>rfl
 | 5,_=>rfl
 | 6,_=>rfl
 | 7,_=>rfl
 | 8,_=>rfl
 | 9,_=>rfl
 | 10,_=>rfl
 | 11,_=>rfl
 | 12,_=>rfl
 | 13,_=>rfl
 | 14,_=>rfl
 | 15,_=>rfl
 | n+16,h=>absurd h (by omega)
theorem D8{a0 a1 a2 a3 a4 a5 a6 a7 a8 a9 a10 a11 a12 a13 a14 a15:Option Nat}(q:Option Nat):∀ {n:Nat} (_:n<16),(fo fv sv pv p bt [a0,a1,a2,a3,a4,a5,a6,a7,a8,a9,a10,a11,a12,a13,a14,a15] vm bg vt bd bw vr).set (9+n) (dO q)=fo fv sv pv p bt ([a0,a1,a2,a3,a4,a5,a6,a7,a8,a9,a10,a11,a12,a13,a14,a15].set n q) vm bg vt bd bw vr
 | 0,_=>rfl
 | 1,_=>rfl
 | 2,_=>rfl
 | 3,_=>rfl
 | 4,_=>rfl
 | 5,_=>rfl
 | 6,_=>rfl
 | 7,_=>rfl
 | 8,_=>rfl
 | 9,_=>rfl
 | 10,_=>rfl
 | 11,_=>rfl
 | 12,_=>rfl
 | 13,_=>rfl
 | 14,_=>rfl
 | 15,_=>rfl
 | n+16,h=>absurd h (by omega)
theorem zf{n:Nat}(h:n<16)(hl:ps.length=16)(q:Option Nat):(fo fv sv pv p bt ps vm bg vt bd bw vr).set (9+n) (dO q)=fo fv sv pv p bt (ps.set n q) vm bg vt bd bw vr:=by
 match ps,hl with
 | [a0,a1,a2,a3,a4,a5,a6,a7,a8,a9,a10,a11,a12,a13,a14,a15],_=>exact D8 q h
end
/-! slots -/
def ek(l:List (Bool×Int)):Int×Int×Int×List (Bool×Int) :=
 match slotFree? l 0 with
 | none=>(0,0,2,l)
 | some n=>((n:Int),ei ((l.getD n (false,0)).2+1) n,0,l.set n (true,(l.getD n (false,0)).2+1))
theorem D9{l:List (Bool×Int)}{k:Nat}{o:Bool×Int}(h:l[k]?=some o)(hu:o.1=true):slotFree? (l.drop k) k=slotFree? (l.drop (k+1)) (k+1):=by rw[drop_cons h,slotFree?,if_pos hu]
theorem Gs{l:List (Bool×Int)}{k:Nat}{o:Bool×Int}(h:l[k]?=some o)(hu:o.1=false):slotFree? (l.drop k) k=some k:=by rw[drop_cons h,slotFree?,if_neg (by rw[hu];simp)]
theorem Gt{l:List (Bool×Int)}{k:Nat}(h:l.length≤k):slotFree? (l.drop k) k=none:=by rw[List.drop_of_length_le h];rfl
def jo(l:List (Bool×Int)):Prop:=l.length≤1024∧ ∀ o∈l,0≤o.2∧o.2<1099511627776
def mS(l:List (Bool×Int))(ps:List (Option Nat))(p:Nat):List (Option Nat):=match slotFree? l 0 with | none=>ps | some n=>ps.set n (some p)
theorem Bf{l:List (Option bE)}{k:Nat}(h:l[k]?=some none):readyFrom (l.drop k) k=readyFrom (l.drop (k+1)) (k+1):=by rw[drop_cons h,readyFrom]
theorem Ea{l:List (Option bE)}{k:Nat}{t:bE}(h:l[k]?=some (some t))(hw:t.cQ=0):readyFrom (l.drop k) k=(k:Int)::readyFrom (l.drop (k+1)) (k+1):=by rw[drop_cons h,readyFrom,if_pos hw]
theorem Gu{l:List (Option bE)}{k:Nat}{t:bE}(h:l[k]?=some (some t))(hw:¬t.cQ=0):readyFrom (l.drop k) k=readyFrom (l.drop (k+1)) (k+1):=by rw[drop_cons h,readyFrom,if_neg hw]
theorem Eb{l:List (Option bE)}{k:Nat}(h:l.length≤k):readyFrom (l.drop k) k=[]:=by rw[List.drop_of_length_le h];rfl
theorem zg{l:List (Bool×Int)}(h:(ek l).2.2.1=0):∃ n,slotFree? l 0=some n∧ek l=((n:Int),ei ((l.getD n (false,0)).2+1) n,0,l.set n (true,(l.getD n (false,0)).2+1)):=by
 unfold ek at *
 cases e:slotFree? l 0 with
 | none=>rw[e] at h;cases h
 | some n=>exact⟨n,rfl,rfl⟩
theorem zh{l:List (Bool×Int)}(h:¬(ek l).2.2.1=0):slotFree? l 0=none∧ek l=(0,0,2,l):=by
 unfold ek at *
 cases e:slotFree? l 0 with
 | none=>exact⟨rfl,rfl⟩
 | some n=>rw[e] at h;exact absurd rfl h
theorem eU{s:Spc}{f arg:Int}{n:Nat}(h:slotFree? s.table 0=some n):s.begin f arg=((n:Int),0,{s with table:=s.table.set n (true,(s.table.getD n (false,0)).2+1),aF:=s.aF.set n (some (rG f arg (ei ((s.table.getD n (false,0)).2+1) n))) }):=by
 unfold Spc.begin;rw[h]
theorem j9{s:Spc}{f arg:Int}(h:slotFree? s.table 0=none):s.begin f arg=(0,2,s):=by unfold Spc.begin;rw[h]
theorem Gv{ps:List (Option Nat)}{ts:List (Option bE)}{n p:Nat}{t:bE}(h:ts[n]?=some none):∀ g,seps [arr p 0 (bj t),aA ps ts] g→aA (ps.set n (some p)) (ts.set n (some t)) g:=fun g a=>oI h g (by simpa only[seps,aJ] using a)
def CP(ts:List (Option bE))(k:Nat):Int:=match ts[k]? with | some (some t)=>t.cQ | _=>0
theorem Bg{ts:List (Option bE)}{k:Nat}{t:bE}(h:ts[k]?=some (some t)):t.cQ=CP ts k:=by unfold CP;rw[h]
theorem vD{ps:List (Option Nat)}{ts:List (Option bE)}(hs:xx ps ts){k:Nat}(hk:k<ts.length){g:Nat→Addr}(h:((ps.getD k none).map g).isNone=false):∃ p t,ps[k]?=some (some p)∧ts[k]?=some (some t):=by
 obtain⟨x,hx⟩:=ak hk
 cases x with
 | none=>have:=hs.2.2 k hx;rw[List.getD_eq_getElem?_getD,this] at h;cases h
 | some t=>obtain⟨p,hp⟩:=hs.2.1 k t hx;exact⟨p,t,hp,hx⟩
theorem bA{α:Type}{l:List α}{k:Nat}{x d:α}(h:l[k]?=some x):l.getD k d=x:=by rw[List.getD_eq_getElem?_getD,h];rfl
theorem Jl{ps:List (Option Nat)}{ts:List (Option bE)}(hs:xx ps ts){k:Nat}(hk:k<ts.length){g:Nat→Addr}(h:((ps.getD k none).map g).isNone=false∧CP ts k=0):readyFrom (ts.drop k) k=(k:Int)::readyFrom (ts.drop (k+1)) (k+1):=by
 obtain⟨p,t,hp,ht⟩:=vD hs hk h.1
 exact Ea ht ((Bg ht).trans h.2)
theorem Lc{ps:List (Option Nat)}{ts:List (Option bE)}(hs:xx ps ts){k:Nat}(hk:k<ts.length){g:Nat→Addr}(h:((ps.getD k none).map g).isNone=true∨¬CP ts k=0):readyFrom (ts.drop k) k=readyFrom (ts.drop (k+1)) (k+1):=by
 obtain⟨x,hx⟩:=ak hk
 cases x with
 | none=>exact Bf hx
 | some t =>
  obtain⟨p,hp⟩:=hs.2.1 k t hx
  rcases h with h | h
  ·rw[bA hp] at h;cases h
  ·exact Gu hx (fun e=>h (by rw[← Bg hx];exact e))
theorem jc:∀ (l:List (Option bE)) (k:Nat),(readyFrom l k).length≤l.length
 | [],_=>Nat.le_refl _
 | none::l,k=>Nat.le_succ_of_le (jc l (k+1))
 | some t::l,k=>by
  rw[readyFrom]
  split
  ·simpa using jc l (k+1)
  ·exact Nat.le_succ_of_le (jc l (k+1))
theorem Bh{l:List Int}{k:Nat}{n:Int}(h:(l.take 4)[k]?=some n):((l.take 4).take (k+1)).map (fun n=>((Value.slice none 0 0:Value),(⟨[],aQ n 1048576⟩:kz)))=((l.take 4).take k).map (fun n=>((Value.slice none 0 0:Value),(⟨[],aQ n 1048576⟩:kz)))++[(Value.slice none 0 0,⟨[],aQ n 1048576⟩)]:=by
 rw[aX h,List.map_append];rfl
theorem uT{α β:Type}{f:β→aa}{g:α→β}{l:List α}(h:∀ x h,emp h→f (g x) h):∀ h,emp h→aD f (l.map g) h:=by
 induction l with
 | nil=>intro h e;exact e
 | cons x l ih =>
  intro k e
  rw[List.map_cons,fN]
  have:sep emp emp k:=by rw[jF];exact e
  exact ba (h x) ih k this
theorem ax.allM{α β:Type}{H R As:List aa}{f:β→aa}{g:α→β}{l:List α}(h:∀ x h,emp h→f (g x) h)(t:ax H As R):ax H (aD f (l.map g)::As) R:=.conv (A:=seps []) (uT h) (.ez .nil t)
@[irreducible] def optH (f:Nat→aa) (o:Option Nat):aa:=match o with
 | none=>emp
 | some b=>f b
theorem ax.Jm{H R As:List aa}{f:Nat→aa}(t:ax H As R):ax H (optH f none::As) R:=.conv (A:=seps []) (fun _ e=>by unfold optH;exact e) (.ez .nil t)
theorem ax.Jn{H R As:List aa}{f:Nat→aa}{b:Nat}(t:ax H (f b::As) R):ax H (optH f (some b)::As) R:=.conv (A:=f b) (fun _ e=>by unfold optH;exact e) t
theorem eV{f:Nat→aa}{b:Nat}:∀ h,optH f (some b) h→seps [f b] h:=fun h a=>by unfold optH at a;simpa only[seps,aJ] using a
theorem ax.rG{H R As:List aa}(t:ax H As R):ax H (aA (List.replicate 16 none) (List.replicate 16 none)::As) R:=.conv (A:=seps []) (fun _ e=>e) (.ez .nil t)
theorem s6{p:fM}(h:de p=0):gX p=true:=by
 unfold de at h
 by_cases hc:gX p=true
 ·exact hc
 ·rw[if_neg hc] at h;cases h
theorem Jo{W:World}{H:List aa}{A:aa}{v:aN}(hp:eM W [A] v)(ha:At H A):∀ w,Sat W w (seps H)→ ∀ y∈v.fs, ∀ c∈ej y,c.oneCell'=true:=fun w s y hy c hc=>by
 simp only[ej,List.mem_cons,List.not_mem_nil,or_false] at hc
 subst hc
 exact((hp.ins y hy).at ha).one w s
def xy(p:fM):Spc:=⟨p,List.replicate 16 (false,0),List.replicate 16 none,List.replicate p.words.toNat 0,Gates.new p.bu p.conds p.bI,p.aZ.map Tub.new,kF.new p.blocks,lJ.new,[]⟩
theorem Ec(p:fM):jo (xy p).table:=⟨by show(List.replicate 16 (false,(0:Int))).length≤1024;simp,fun o ho=>by rw[List.eq_of_mem_replicate ho];simp⟩
theorem Ed(p:fM):∀ n,slotFree? (xy p).table 0=some n→(xy p).aF[n]?=some none:=fun n h=>by
 have:n=0:=by simpa [xy,slotFree?] using h.symm
 subst this;rfl
theorem Ld(p:fM):Spc.new p=((xy p).begin 0 0).2.2:=rfl
theorem Jp{α:Type}{cl fs:List α}{k:Nat}{x y:α}(hl:cl.length=k)(hx:fs[k]?=some x):(cl++fs.drop k).set k y=(cl++[y])++fs.drop (k+1):=by
 subst hl
 rw[drop_cons hx,List.set_append_right _ _ (Nat.le_refl _)]
 simp
theorem Gw{α:Type}{cl fs:List α}{k:Nat}{x:α}(hl:cl.length=k)(hx:fs[k]?=some x):(cl++fs.drop k)[k]?=some x:=by
 subst hl
 rw[drop_cons hx,List.getElem?_append_right (Nat.le_refl _)]
 simp
theorem Rd.isSl{W:World}{H:List aa}{α:Type}{enc:α→List Value}{k:Nat}{v:Value}{xs:List α}(h:Rd W H enc k v xs):∀ w,Sat W w (seps H)→isSl v=true:=fun w s=>by
 obtain⟨⟨a,cap,hv,_⟩,_⟩:=h w s
 rw[hv];rfl
theorem Gx{l:List Ev}{k:Nat}{e:Ev}(h:l[k]?=some e)(hb:dC e=true∨0<e.mode):cR (l.take (k+1))=cR (l.take k)++[e]:=by
 rw[aX h];unfold cR;rw[List.filter_append]
 congr 1
 rw[List.filter_cons,if_pos (by simpa using hb)];rfl
theorem Jq{l:List Ev}{k:Nat}{e:Ev}(h:l[k]?=some e)(hb:dC e=false∧¬ 0<e.mode):cR (l.take (k+1))=cR (l.take k):=by
 rw[aX h];unfold cR;rw[List.filter_append]
 have:(dC e || decide (0<e.mode))=false:=by rw[hb.1];simpa using hb.2
 simp[this]
theorem ka(l:List Ev):(cR l).length≤l.length:=List.length_filter_le _ _
theorem Ee(l:List Ev)(k:Nat):(cR (l.take k)).length≤k:=Nat.le_trans (ka _) (by rw[List.length_take];omega)
def s7(v:aM):Int:=if v.runs=true then v.ab else 0
def MG(e:Ev):Int:=if dC e=true then e.ab else 0
theorem mT(v:aM):v.strip.length≤v.evs.length+1:=by
 unfold aM.strip
 have:=ka v.evs
 rw[List.length_append]
 split
 ·simp;omega
 ·split <;> simp <;> omega
theorem zi{l:List Int}{k:Nat}{n:Int}(h:l[k]?=some n):aH (l.take (k+1))=aH (l.take k)++[⟨3,n,0⟩]:=by unfold aH;rw[aX h,List.map_append];rfl
/-! a library -/
def gN(l:Lib)(p:Int):Bool:=decide (0≤p) && decide (p<(l.vs.length:Int))
def cS(vs:List aM)(p:Int):Int:=(vs.getD p.toNat aM.z).mode
theorem kK(l:Lib)(p:Int):l.has p=(gN l p && decide (cS l.vs p≠0)):=by
 unfold Lib.has gN cS aB
 by_cases h:p<0
 ·simp[h];omega
 ·rw[if_neg h]
  by_cases h2:p.toNat<l.vs.length
  ·have e:l.vs[p.toNat]?=some l.vs[p.toNat]:=by simp[h2]
   have d1:decide (0≤p)=true:=decide_eq_true (by omega)
   have d2:decide (p<(l.vs.length:Int))=true:=decide_eq_true (by omega)
   rw[e,bA e,d1,d2];simp
  ·have e:l.vs[p.toNat]?=none:=by simp;omega
   have d2:decide (p<(l.vs.length:Int))=false:=decide_eq_false (by omega)
   rw[e,d2];simp
theorem aE{α β:Type}{f:α→β}{xs:List α}{ys:List β}(h:xs.map f=ys):xs.length=ys.length:=by rw[← h,List.length_map]
theorem eQ{α β:Type}{f:α→β}{xs:List α}{ys:List β}(h:xs.map f=ys){i:Nat}{x:α}(hx:xs[i]?=some x):ys[i]?=some (f x):=by rw[← h,List.getElem?_map,hx];rfl
theorem kL{vs:List aM}{i:Nat}{v:aM}(h:vs[i]?=some v):v.mode=cS vs (i:Int):=by unfold cS;rw[Int.toNat_natCast,bA h]
theorem Ef{l:Lib}{k:Nat}(hk:k<l.vs.length)(h:l.has (k:Int)=true):procsFrom (l.vs.drop k) k=(k:Int)::procsFrom (l.vs.drop (k+1)) (k+1):=by
 obtain⟨v,hv⟩:=ak hk
 rw[kK,Bool.and_eq_true,decide_eq_true_eq, ← kL hv] at h
 rw[drop_cons hv,procsFrom,if_neg h.2]
theorem Gy{l:Lib}{k:Nat}(hk:k<l.vs.length)(h:l.has (k:Int)=false):procsFrom (l.vs.drop k) k=procsFrom (l.vs.drop (k+1)) (k+1):=by
 obtain⟨v,hv⟩:=ak hk
 have e:gN l (k:Int)=true:=by unfold gN;simp[hk]
 rw[kK,e,Bool.true_and,decide_eq_false_iff_not, ← kL hv] at h
 rw[drop_cons hv,procsFrom,if_pos (Decidable.of_not_not h)]
theorem Eg{vs:List aM}{k:Nat}(h:vs.length≤k):procsFrom (vs.drop k) k=[]:=by rw[List.drop_of_length_le h];rfl
theorem qk:∀ (vs:List aM) (k:Nat) (p:Int),p∈procsFrom vs k→ ∃ i v,p=((k+i:Nat):Int)∧vs[i]?=some v∧v.mode≠0
 | [],k,p,h=>by cases h
 | v::vs,k,p,h=>by
  rw[procsFrom] at h
  split at h
  ·obtain⟨i,u,e,hu,hm⟩:=qk vs (k+1) p h
   exact⟨i+1,u,by rw[e];congr 1;omega,by simpa using hu,hm⟩
  ·rename_i hm
   rcases List.mem_cons.1 h with h | h
   ·exact⟨0,v,h,rfl,hm⟩
   ·obtain⟨i,u,e,hu,hm⟩:=qk vs (k+1) p h
    exact⟨i+1,u,by rw[e];congr 1;omega,by simpa using hu,hm⟩
theorem hY{l:Lib}{p:Int}{r:List Int}(h:l.procs=p::r):∃ (i:Nat) (v:aM),p=(i:Int)∧l.vs[i]?=some v∧v.mode≠0:=by
 obtain⟨i,v,e,hv,hm⟩:=qk l.vs 0 p (by show p∈l.procs;rw[h];exact List.mem_cons_self ..)
 exact⟨i,v,by rw[e];congr 1;omega,hv,hm⟩
theorem ql:∀ (vs:List aM) (k:Nat),(procsFrom vs k).length≤vs.length
 | [],_=>Nat.le_refl _
 | v::vs,k=>by
  rw[procsFrom]
  split
  ·exact Nat.le_succ_of_le (ql vs (k+1))
  ·simpa using ql vs (k+1)
end Go.SLYthlllpngkljgfaaGreat
namespace Go.SLYthlllpngkljgfaaGreat
open Go Go.RowKit
theorem At.auto{H:List aa}{A:aa}(t:At H A:=by repeat (first | exact At.here | refine At.there ?_)):At H A:=t
theorem Take.auto{H R:List aa}{A:aa}(t:Take H A R:=by repeat (first | exact Take.here | apply Take.there)):Take H A R:=t
theorem gp.auto{H H':List aa}{A B:aa}(t:gp H A B H':=by repeat (first | exact gp.here | apply gp.there)):gp H A B H':=t
theorem AY.auto{ks:List Nat}{L L':List (Nat×Option Value)}(t:AY ks L L':=by repeat (first | exact AY.base | refine AY.cons rfl ?_)):AY ks L L':=t
theorem Kept.auto{W:World}{H K:List aa}(t:Kept H K:=by repeat (first | exact Kept.nil | exact Take.here | apply Take.there | apply Kept.take)):∀ w,Sat W w (seps H)→Sat W w (seps K):=Kept.ok t
theorem ax.auto{H As R:List aa}(t:ax H As R:=by repeat (first | exact ax.nil | (apply ax.cons; · repeat (first | exact Take.here | apply Take.there)) | apply ax.Jm | apply ax.Jn | apply ax.void | apply ax.Jk | apply ax.two | (apply ax.Gq; · exact ij) | (apply ax.allM; · exact fun _=>ij) | apply ax.f1 rfl | apply ax.f2 rfl | apply ax.f3 rfl | apply ax.f4 rfl | apply ax.f10 rfl | apply ax.ez | assumption | exact trivial | rfl | omega)):ax H As R:=t
end Go.SLYthlllpngkljgfaaGreat
namespace Go.SLYthlllpngkljgfaaGreat
open Go Go.RowKit
theorem c0{α:Type}{f:α→aa}{xs:List α}{i:Nat}{x:α}(h:xs[i]?=some x):∀ g,aD f xs g→seps [f x,aD f (xs.eraseIdx i)] g:=fun g a=>by
 rw[jl f h] at a;simpa only[seps,aJ] using a
theorem kM{α:Type}{f:α→aa}{xs:List α}{i:Nat}{x:α}(y:α)(h:xs[i]?=some x):∀ g,seps [f y,aD f (xs.eraseIdx i)] g→aD f (xs.set i y) g:=fun g a=>by
 rw[gL f y (List.getElem?_eq_some_iff.1 h).1];simpa only[seps,aJ] using a
theorem eW{α:Type}{f:α→aa}{xs:List α}{i:Nat}{x:α}(h:xs[i]?=some x):∀ g,seps [f x,aD f (xs.eraseIdx i)] g→aD f xs g:=fun g a=>by
 rw[jl f h];simpa only[seps,aJ] using a
theorem dt{α β:Type}{f:α→β}{xs:List α}{ys:List β}(h:xs.map f=ys){i:Nat}{y:β}(hy:ys[i]?=some y):∃ x,xs[i]?=some x∧f x=y:=by
 rw[← h,List.getElem?_map] at hy
 cases e:xs[i]? with
 | none=>rw[e] at hy;cases hy
 | some x=>rw[e] at hy;exact⟨x,rfl,by simpa using hy⟩
theorem map_set{α β:Type}{f:α→β}{xs:List α}{ys:List β}(h:xs.map f=ys)(i:Nat)(y:α):(xs.set i y).map f=ys.set i (f y):=by rw[List.map_set,h]
theorem rR{u:Value}{x:aM}(h:isSl u=true):(fe (u,x)).all (·.oneCell')=true:=by
 have:=gb h
 show(true && (true && (u.oneCell' && true)))=true
 rw[this];rfl
theorem mU{l:Lib}{p:Int}(h:gN l p=true):∃ (i:Nat) (v:aM),p=(i:Int)∧l.vs[i]?=some v:=by
 unfold gN at h
 simp only[Bool.and_eq_true,decide_eq_true_eq] at h
 obtain⟨v,hv⟩:=ak (show p.toNat<l.vs.length by omega)
 exact⟨p.toNat,v,by omega,hv⟩
theorem s8{l:Lib}{p:Int}(h:l.has p=true):gN l p=true:=by
 rw[kK,Bool.and_eq_true] at h;exact h.1
theorem kc{l:Lib}{p:Int}(h:gN l p=false∨l.has p=true):l.dj p=(false,l):=by
 unfold Lib.dj
 rcases h with h | h
 ·have:aB l.vs p=none:=by
   unfold gN at h
   unfold aB
   split
   ·rfl
   ·simp only[Bool.and_eq_false_iff,decide_eq_false_iff_not] at h
    simp;omega
  rw[this]
 ·obtain⟨i,v,rfl,hv⟩:=mU (s8 h)
  have e:aB l.vs (i:Int)=some v:=by unfold aB;rw[if_neg (by omega),Int.toNat_natCast,hv]
  rw[kK,Bool.and_eq_true,decide_eq_true_eq, ← kL hv] at h
  rw[e];simp only;rw[if_neg h.2]
theorem mV{l:Lib}{p:Int}(h1:gN l p=true)(h:l.has p=false):∃ (i:Nat) (v:aM),p=(i:Int)∧l.vs[i]?=some v∧l.dj p=(true,{l with vs:=l.vs.set i (aM.new (⟨1, -1,0⟩::l.waiting)),waiting:=[] }):=by
 obtain⟨i,v,rfl,hv⟩:=mU h1
 refine⟨i,v,rfl,hv,?_⟩
 have e:aB l.vs (i:Int)=some v:=by unfold aB;rw[if_neg (by omega),Int.toNat_natCast,hv]
 rw[kK,h1,Bool.true_and,decide_eq_false_iff_not, ← kL hv,Decidable.not_not] at h
 unfold Lib.dj;rw[e];simp only;rw[if_pos h];rfl
theorem jq(l:Lib):l.tell []=l:=by unfold Lib.tell;rw[if_pos rfl]
theorem jd{l:Lib}{ys:List Ev}(h:ys≠[])(hp:l.procs=[]):l.tell ys = {l with waiting:=l.waiting++ys }:=by unfold Lib.tell;rw[if_neg h,hp]
theorem je{l:Lib}{ys:List Ev}(h:ys≠[]){i:Nat}{v:aM}{r:List Int}(hp:l.procs=(i:Int)::r)(hv:l.vs[i]?=some v):l.tell ys = {l with vs:=l.vs.set i (v.told ys) }:=by
 unfold Lib.tell;rw[if_neg h,hp];simp only[Int.toNat_natCast];rw[bA hv]
theorem jf{l:Lib}{p:Int}(h:l.has p=false):l.cF p=(false,l):=by unfold Lib.cF;rw[if_neg (by rw[h];simp)]
theorem hZ{l:Lib}{i:Nat}{v:aM}(h:l.has (i:Int)=true)(hv:l.vs[i]?=some v):l.cF (i:Int)=(true,({l with vs:=l.vs.set i aM.z }:Lib).tell v.strip):=by
 unfold Lib.cF;rw[if_pos h];simp only[Int.toNat_natCast];rw[bA hv]
/-! processors -/
def bS(b:Nat)(bl:List Nat)(k:Krn):aa:=yX (fun _ _ (xs:List (Nat×Lib))=>xs.map (·.1)=bl∧xs.map (·.2)=k.libs) fun vo vl xs=>[arr b 0 [vo,vl],sl au 1 vo k.owner,sl bH 1 vl xs,aD (fun x=>df x.1 x.2) xs]
def Gz(b:Nat)(k:Krn):aa:=iS (fun _=>True) fun bl=>[bS b bl k]
theorem xz{W:World}{H:List aa}{A:aa}{v:aN}(hp:eM W [A] v)(ha:At H A):∀ w,Sat W w (seps H)→(ed v).all (·.oneCell')=true:=fun w s=>by
 have h1:=gb ((hp.fs.at ha).isSl w s)
 have h2:=gb ((hp.bI.at ha).isSl w s)
 have h3:=gb ((hp.aZ.at ha).isSl w s)
 show(v.fv.oneCell' && (true && (true && (true && (v.sv.oneCell' && (v.pv.oneCell' && (true && (true && true))))))))=true
 rw[h1,h2,h3];rfl
def fV(l:Lib):Nat:=l.waiting.length+(l.vs.map (fun v=>v.evs.length)).sum
structure Le(m:Nat)(l:Lib):Prop where
 ev:fV l≤m
 vl:l.vs.length≤64
 th:l.aO.aF.length=16
structure qZ(m:Nat)(k:Krn):Prop where
 own:∀ v∈k.owner,v = -1∨(0≤v∧v<(k.libs.length:Int))
 ol:k.owner.length≤64
 ll:k.libs.length≤8
 gY:∀ l∈k.libs,Le m l
def fi(k:Krn)(p:Int):Bool:=decide (0≤p) && decide (p<(k.owner.length:Int))
def CQ(o:List Int)(p:Int):Int:=o.getD p.toNat 0
theorem jg{k:Krn}{p:Int}(h:fi k p=true):∃ (i:Nat) (o:Int),p=(i:Int)∧k.owner[i]?=some o:=by
 unfold fi at h
 simp only[Bool.and_eq_true,decide_eq_true_eq] at h
 obtain⟨v,hv⟩:=ak (show p.toNat<k.owner.length by omega)
 exact⟨p.toNat,v,by omega,hv⟩
theorem s9{k:Krn}{p:Int}(h:fi k p=false):aB k.owner p=none:=by
 unfold fi at h
 unfold aB
 split
 ·rfl
 ·simp only[Bool.and_eq_false_iff,decide_eq_false_iff_not] at h
  simp;omega
theorem bb{α:Type}(l:List α)(i:Nat):aB l (i:Int)=l[i]?:=by unfold aB;rw[if_neg (by omega),Int.toNat_natCast]
theorem xA{o:List Int}{i:Nat}{v:Int}(h:o[i]?=some v):v=CQ o (i:Int):=by unfold CQ;rw[Int.toNat_natCast,bA h]
theorem ta{k:Krn}{p:Int}(h:fi k p=false∨CQ k.owner p = -1):k.ownerOf p=(0,false):=by
 unfold Krn.ownerOf
 by_cases ht:fi k p=true
 ·obtain⟨i,o,rfl,ho⟩:=jg ht
  rw[bb,ho]
  simp only
  rw[if_pos]
  rcases h with h | h
  ·rw[ht] at h;cases h
  ·rw[xA ho];exact h
 ·rw[s9 (by simpa using ht)]
theorem qm{k:Krn}{i:Nat}{o:Int}(h:k.owner[i]?=some o)(hn:o≠ -1):k.ownerOf (i:Int)=(o,true):=by
 unfold Krn.ownerOf;rw[bb,h];simp only;rw[if_neg hn]
theorem GA{o:List Int}{k:Nat}{v:Int}(h:o[k]?=some v)(hv:v = -1):freeFrom (o.drop k) k=(k:Int)::freeFrom (o.drop (k+1)) (k+1):=by rw[drop_cons h,freeFrom,if_pos hv]
theorem Jr{o:List Int}{k:Nat}{v:Int}(h:o[k]?=some v)(hv:¬v = -1):freeFrom (o.drop k) k=freeFrom (o.drop (k+1)) (k+1):=by rw[drop_cons h,freeFrom,if_neg hv]
theorem GB{o:List Int}{k:Nat}(h:o.length≤k):freeFrom (o.drop k) k=[]:=by rw[List.drop_of_length_le h];rfl
theorem GC{k:Krn}{n:Nat}{l:Lib}(h:k.libs[n]?=some l):k.demand.take (n+1)=k.demand.take n++[(l.aO.ready.length:Int)]:=by
 refine aX ?_
 unfold Krn.demand;rw[List.getElem?_map,h];rfl
def du(k:Krn)(p:Int):Int:=match aB k.owner p with | none=>1 | some o=>if o = -1 then 11 else 0
def tc(bl:List Nat)(k:Krn)(p:Int):Option Nat:=match aB k.owner p with | none=>none | some o=>if o = -1 then none else bl[o.toNat]?
theorem vE{k:Krn}{bl:List Nat}{p:Int}(h:fi k p=false):du k p=1∧tc bl k p=none:=by
 unfold du tc;rw[s9 h];exact⟨rfl,rfl⟩
theorem vG{k:Krn}{bl:List Nat}{p:Int}(ht:fi k p=true)(h:(k.ownerOf p).2=false):du k p=11∧tc bl k p=none:=by
 obtain⟨i,o,rfl,ho⟩:=jg ht
 unfold Krn.ownerOf at h
 unfold du tc
 rw[bb,ho] at *
 simp only at *
 by_cases e:o = -1
 ·rw[if_pos e,if_pos e];exact⟨rfl,rfl⟩
 ·rw[if_neg e] at h;cases h
theorem GD{k:Krn}{p:Int}(ht:fi k p=true)(h:(k.ownerOf p).2=true):∃ (i:Nat) (o:Int),p=(i:Int)∧k.owner[i]?=some o∧o≠ -1∧k.ownerOf p=(o,true):=by
 obtain⟨i,o,rfl,ho⟩:=jg ht
 by_cases e:o = -1
 ·subst e;rw[ta (.inr (xA ho).symm)] at h;cases h
 ·exact⟨i,o,rfl,ho,e,qm ho e⟩
theorem qZ.nat{m:Nat}{k:Krn}(h:qZ m k){i:Nat}{o:Int}(ho:k.owner[i]?=some o)(hn:o≠ -1):∃ (n:Nat) (l:Lib),o=(n:Int)∧k.libs[n]?=some l:=by
 rcases h.own o (List.mem_of_getElem? ho) with e | ⟨h0,h1⟩
 ·exact absurd e hn
 ·obtain⟨l,hl⟩:=ak (show o.toNat<k.libs.length by omega)
  exact⟨o.toNat,l,by omega,hl⟩
theorem jr{k:Krn}{bl:List Nat}{i n:Nat}(ho:k.owner[i]?=some (n:Int)):du k (i:Int)=0∧tc bl k (i:Int)=bl[n]?:=by
 unfold du tc;rw[bb,ho];simp only;rw[if_neg (by omega),if_neg (by omega),Int.toNat_natCast];exact⟨rfl,rfl⟩
theorem dy{m:Nat}{k:Krn}(hk:qZ m k){p:Int}(h:du k p=0):∃ (i n:Nat) (l:Lib),p=(i:Int)∧k.owner[i]?=some (n:Int)∧k.libs[n]?=some l∧k.take p=(0,⟨k.owner.set i (-1),k.libs.set n (l.cF (i:Int)).2⟩):=by
 unfold du at h
 cases e:aB k.owner p with
 | none=>rw[e] at h;cases h
 | some o =>
  rw[e] at h
  simp only at h
  by_cases eo:o = -1
  ·rw[if_pos eo] at h;cases h
  ·have hp:0≤p:=by
    unfold aB at e
    split at e
    ·cases e
    ·omega
   obtain⟨i,rfl⟩:∃ i:Nat,p=(i:Int):=⟨p.toNat,by omega⟩
   rw[bb] at e
   obtain⟨n,l,rfl,hl⟩:=hk.nat e eo
   refine⟨i,n,l,rfl,e,hl,?_⟩
   unfold Krn.take;rw[bb,e];simp only;rw[if_neg eo];simp only[Int.toNat_natCast];rw[bA hl]
theorem js{k:Krn}{p:Int}(h:¬du k p=0):k.take p=(du k p,k):=by
 unfold du Krn.take at *
 cases e:aB k.owner p with
 | none=>rfl
 | some o =>
  rw[e] at h
  simp only at h ⊢
  by_cases eo:o = -1
  ·rw[if_pos eo,if_pos eo]
  ·rw[if_neg eo] at h;exact absurd rfl h
theorem Eh{k:Krn}{p n:Int}(h:fi k p=false∨aB k.libs n=none):k.eP p n=(1,k):=by
 unfold Krn.eP
 rcases h with h | h
 ·rw[s9 h]
 ·rw[h];cases aB k.owner p <;> rfl
theorem Bi{k:Krn}{i:Nat}{o n:Int}{l:Lib}(ho:k.owner[i]?=some o)(hl:aB k.libs n=some l)(h:o≠ -1):k.eP (i:Int) n=(4,k):=by
 unfold Krn.eP;rw[bb,ho,hl];simp only;rw[if_neg h]
theorem l3{k:Krn}{i n:Nat}{l:Lib}(ho:k.owner[i]?=some (-1))(hl:k.libs[n]?=some l):k.eP (i:Int) (n:Int)=(0,⟨k.owner.set i (n:Int),k.libs.set n (l.dj (i:Int)).2⟩):=by
 unfold Krn.eP;rw[bb,bb,ho,hl];simp only[if_true,Int.toNat_natCast]
theorem Lf{k:Krn}{bl:List Nat}{n:Int}(hb:bl.length=k.libs.length)(h:n<0∨(k.libs.length:Int)≤n):aB bl n=none∧aB k.libs n=none:=by
 unfold aB
 by_cases h0:n<0
 ·rw[if_pos h0,if_pos h0];exact⟨rfl,rfl⟩
 ·rw[if_neg h0,if_neg h0];constructor <;> · simp;omega
theorem eX{xs:List (Nat×Lib)}{bl:List Nat}{ls:List Lib}(hb:xs.map (·.1)=bl)(hl:xs.map (·.2)=ls){n:Nat}{l:Lib}(h:ls[n]?=some l):∃ x,xs[n]?=some x∧x.2=l∧bl[n]?=some x.1:=by
 obtain⟨x,hx,e⟩:=dt hl h
 exact⟨x,hx,e,eQ hb hx⟩
theorem mW{xs:List (Nat×Lib)}{bl:List Nat}{ls:List Lib}(hb:xs.map (·.1)=bl)(hl:xs.map (·.2)=ls){n:Nat}{x:Nat×Lib}(h:xs[n]?=some x)(l:Lib):(xs.set n (x.1,l)).map (·.1)=bl∧(xs.set n (x.1,l)).map (·.2)=ls.set n l:=by
 refine⟨?_,map_set hl n _⟩
 rw[map_set hb n (x.1,l)]
 refine List.ext_getElem? fun i=>?_
 by_cases e:n=i
 ·subst e
  have:=eQ hb h
  rw[List.getElem?_set_self (List.getElem?_eq_some_iff.1 this).1,this]
 ·rw[List.getElem?_set_ne e]
theorem ke{xs:List (Nat×Lib)}{bl:List Nat}{ls:List Lib}(hb:xs.map (·.1)=bl)(hl:xs.map (·.2)=ls):bl.length=ls.length:=by rw[← hb, ← hl,List.length_map,List.length_map]
theorem Bj{k:Krn}{bl:List Nat}{p n:Int}{g:Nat→Addr}(hb:bl.length=k.libs.length)(h:fi k p=false∨((aB bl n).map g).isNone=true):k.eP p n=(1,k):=by
 refine Eh (h.imp id fun h=>?_)
 cases e:aB bl n with
 | some x=>rw[e] at h;cases h
 | none =>
  unfold aB at *
  split at e
  ·rename_i h0;rw[if_pos h0]
  ·rename_i h0;rw[if_neg h0];simp at e ⊢;omega
theorem Ei{k:Krn}{bl:List Nat}{xs:List (Nat×Lib)}{p n:Int}{g:Nat→Addr}(hb:xs.map (·.1)=bl)(hl:xs.map (·.2)=k.libs)(h:fi k p=true∧((aB bl n).map g).isNone=false):∃ (i j:Nat) (o:Int) (x:Nat×Lib),p=(i:Int)∧n=(j:Int)∧k.owner[i]?=some o∧xs[j]?=some x∧k.libs[j]?=some x.2∧aB bl (j:Int)=some x.1:=by
 obtain⟨i,o,rfl,ho⟩:=jg h.1
 have h2:=h.2
 cases e:aB bl n with
 | none=>rw[e] at h2;cases h2
 | some b =>
  have hn:0≤n:=by
   unfold aB at e
   split at e
   ·cases e
   ·omega
  obtain⟨j,rfl⟩:∃ j:Nat,n=(j:Int):=⟨n.toNat,by omega⟩
  rw[bb] at e
  obtain⟨x,hx,rfl⟩:=dt hb e
  exact⟨i,j,o,x,rfl,rfl,ho,hx,eQ hl hx,by rw[bb,e]⟩
theorem qn{α:Type}{v:Value}{xs ys:List (Nat×α)}(h:xs.map (·.1)=ys.map (·.1)):∀ g,seps [sl bH 1 v xs] g→sl bH 1 v ys g:=fun g a=>by
 have hl:xs.length=ys.length:=by have:=congrArg List.length h;simpa using this
 have hr:∀ zs:List (Nat×α),rows bH zs=(zs.map (·.1)).map ptr:=fun zs=>by
  unfold rows
  induction zs with
  | nil=>rfl
  | cons z zs ih=>simp only[List.flatMap_cons,List.map_cons,ih];rfl
 have a':sl bH 1 v xs g:=by simpa only[seps,aJ] using a
 rcases a' with ⟨e,h0,he⟩ | ⟨b,cap,sp,hv,hc,hk,hs,ha⟩
 ·subst h0
  exact .inl ⟨e,List.eq_nil_of_length_eq_zero hl.symm,he⟩
 ·exact .inr ⟨b,cap,sp,by rw[← hl];exact hv,by rw[← hl];exact hc,fun _ _=>rfl,by rw[← hl];exact hs,by rw[hr ys, ← h, ← hr xs];exact ha⟩
theorem zj{l:List Nat}{n:Nat}(h:n∈l):n≤l.sum:=by
 induction l with
 | nil=>cases h
 | cons x l ih =>
  rw[List.sum_cons]
  rcases List.mem_cons.1 h with h | h
  ·omega
  ·have:=ih h;omega
theorem Le.w{m:Nat}{l:Lib}(h:Le m l):l.waiting.length≤m:=by have:=h.ev;unfold fV at this;omega
theorem Le.e{m:Nat}{l:Lib}(h:Le m l):∀ v∈l.vs,v.evs.length≤m:=fun v hv=>by
 have:=h.ev;unfold fV at this
 have:=zj (List.mem_map_of_mem (f:=fun v:aM=>v.evs.length) hv)
 omega
end Go.SLYthlllpngkljgfaaGreat
namespace Go.SLYthlllpngkljgfaaGreat
open Go Go.RowKit
structure xB(d:Deal):Prop where
 left:0≤d.left∧d.left≤64
 pl:d.prio.length=d.demand.length
 ol:d.out.length=d.demand.length
 dm:∀ z∈d.demand,z≤1000000
 om:∀ y∈d.out,0≤y
 dl:d.demand.length≤8
theorem oL{d:Deal}{p:Int}{n:Nat}(h:0<d.left∧d.lC n p=true):d.step p n=({d with out:=d.out.set n (d.out.getD n 0+1),left:=d.left-1 },true):=by unfold Deal.step;rw[if_pos h]
theorem oM{d:Deal}{p:Int}{n:Nat}(h:¬(0<d.left∧d.lC n p=true)):d.step p n=(d,false):=by unfold Deal.step;rw[if_neg h]
theorem xC{d:Deal}(h:xB d)(p:Int)(n:Nat):xB (d.step p n).1:=by
 by_cases c:0<d.left∧d.lC n p=true
 ·rw[oL c]
  refine⟨by show 0≤d.left-1∧d.left-1≤64;have:=h.left;omega,h.pl,by show(d.out.set _ _).length=_;rw[List.length_set];exact h.ol,h.dm,fun y hy=>?_,h.dl⟩
  rcases List.mem_or_eq_of_mem_set hy with e | e
  ·exact h.om y e
  ·subst e
   rw[List.getD_eq_getElem?_getD]
   cases e:d.out[n]? with
   | none=>simp
   | some x=>have:=h.om x (List.mem_of_getElem? e);simp;omega
 ·rw[oM c];exact h
theorem CR{p:Int}{f m k:Nat}{d d':Deal}{any:Bool}{r:Deal×Bool}(h:r=Deal.go p f m k d any)(hk:k<d.demand.length)(hm:m=d.demand.length-k){n:Nat}(hn:n=(f+k) % d.demand.length){t:Bool}(hs:d.step p n=(d',t)):r=Deal.go p f (d.demand.length-(k+1)) (k+1) d' (any || t):=by
 obtain⟨j,rfl⟩:∃ j,m=j+1:=⟨m - 1,by omega⟩
 rw[h,Deal.go, ← hn,hs,show j=d.demand.length-(k+1) from by omega]
theorem td(p:Int)(f:Nat):∀ (m k:Nat) (d:Deal) (any:Bool),(Deal.go p f m k d any).1.left≤d.left∧(0≤d.left→0≤(Deal.go p f m k d any).1.left)∧((Deal.go p f m k d any).2=true→any=true∨(Deal.go p f m k d any).1.left<d.left)∧(Deal.go p f m k d any).1.demand=d.demand∧(Deal.go p f m k d any).1.prio=d.prio∧(xB d→xB (Deal.go p f m k d any).1)
 | 0,k,d,any=>⟨Int.le_refl _,id,.inl,rfl,rfl,id⟩
 | m+1,k,d,any=>by
  rw[Deal.go]
  by_cases c:0<d.left∧d.lC ((f+k) % d.demand.length) p=true
  ·have ok:=xC (d:=d) (p:=p) (n:=(f+k) % d.demand.length)
   rw[oL c] at ok ⊢
   obtain⟨h1,h2,h3,h4,h5,h6⟩:=td p f m (k+1) {d with out:=d.out.set ((f+k) % d.demand.length) (d.out.getD ((f+k) % d.demand.length) 0+1),left:=d.left - 1 } (any || true)
   simp only at *
   exact⟨by omega,fun h=>h2 (by omega),fun h=>.inr (by omega),h4,h5,fun h=>h6 (ok h)⟩
  ·rw[oM c]
   simpa only[Bool.or_false] using td p f m (k+1) d (any || false)
theorem round_facts(d:Deal)(p:Int)(f:Nat):(d.round p f).1.left≤d.left∧(0≤d.left→0≤(d.round p f).1.left)∧((d.round p f).2=true→(d.round p f).1.left<d.left)∧(d.round p f).1.demand=d.demand∧(d.round p f).1.prio=d.prio∧(xB d→xB (d.round p f).1):=by
 obtain⟨h1,h2,h3,h4⟩:=td p f d.demand.length 0 d false
 exact⟨h1,h2,fun h=>(h3 h).resolve_left (by simp),h4⟩
theorem q6(p:Int)(f:Nat):∀ (a b:Nat) (d:Deal),0≤d.left→d.left.toNat<a→d.left.toNat<b→Deal.rounds p f a d=Deal.rounds p f b d
 | 0,_,_,_,h,_=>absurd h (by omega)
 | _,0,_,_,_,h=>absurd h (by omega)
 | a+1,b+1,d,h0,ha,hb=>by
  rw[Deal.rounds,Deal.rounds]
  obtain⟨h1,h2,h3,h4,h5⟩:=round_facts d p f
  by_cases c:(d.round p f).2=true
  ·rw[if_pos c,if_pos c]
   have:=h3 c
   have:=h2 h0
   exact q6 p f a b _ (h2 h0) (by omega) (by omega)
  ·rw[if_neg c,if_neg c]
def dr(p:Int)(f:Nat)(d:Deal):Deal:=Deal.rounds p f (d.left.toNat+1) d
theorem Lg{p:Int}{f:Nat}{d:Deal}(h0:0≤d.left)(h:(d.round p f).2=true):dr p f d=dr p f (d.round p f).1:=by
 obtain⟨h1,h2,h3,h4,h5⟩:=round_facts d p f
 unfold dr
 rw[Deal.rounds,if_pos h]
 have:=h3 h
 have:=h2 h0
 exact q6 p f _ _ _ (h2 h0) (by omega) (by omega)
theorem MH{p:Int}{f:Nat}{d:Deal}(h:(d.round p f).2=false):dr p f d=(d.round p f).1:=by
 unfold dr
 rw[Deal.rounds,if_neg (by rw[h];simp)]
def priosN(f:Nat):Nat→Deal→Deal
 | 0,d=>d
 | p+1,d=>priosN f p (dr (p:Int) f d)
theorem zk(f:Nat):∀ (p:Nat) (d:Deal),Deal.CK f p d=priosN f (p+1) d
 | 0,d=>rfl
 | p+1,d=>by rw[Deal.CK,zk f p];rfl
theorem oN{t:Int}{n:Nat}(hn:0<n):((t.tmod n+n).tmod n)=((pick t n:Nat):Int):=by
 unfold pick
 have h1 : -(n:Int)<t.tmod n:=Int.lt_tmod_of_pos t (show(0:Int)<n by omega)
 have h2:0≤(t.tmod n+n).tmod n:=Int.tmod_nonneg _ (by omega)
 omega
theorem kN{t:Int}{n:Nat}(hn:0<n):pick t n<n:=by
 have:=oN (t:=t) hn
 have h2:=Int.tmod_lt_of_pos (t.tmod n+n) (show(0:Int)<n by omega)
 omega
def Lh(procs:Int)(demand prio:List Int):Deal:=⟨procs,demand,prio,List.replicate demand.length 0⟩
theorem CS{procs:Int}{demand prio:List Int}{turn:Int}(h:(¬(demand.length:Int)=(prio.length:Int)∨8<(demand.length:Int))∨within procs 64=false):lD procs demand prio turn=none:=by
 unfold lD;rw[if_pos]
 rcases h with (h | h) | h
 ·exact .inl (by omega)
 ·exact .inr (.inl (by omega))
 ·exact .inr (.inr (.inl h))
theorem zl{procs:Int}{demand prio:List Int}{turn:Int}{k:Nat}{p:Int}(hp:prio[k]?=some p)(h:within p 7=false):lD procs demand prio turn=none:=by
 unfold lD;rw[if_pos]
 refine .inr (.inr (.inr ?_))
 refine Bool.eq_false_iff.2 fun e=>?_
 have:=List.all_eq_true.1 e p (List.mem_of_getElem? hp)
 rw[h] at this;cases this
theorem zm{procs:Int}{demand prio:List Int}{turn:Int}(h:demand.length=prio.length∧demand.length≤8∧within procs 64=true)(hp:prio.all (fun p=>within p 7)=true)(h0:demand.length=0):lD procs demand prio turn=some []:=by
 unfold lD;rw[if_neg,if_pos h0]
 rintro(e | e | e | e)
 ·exact e h.1
 ·omega
 ·rw[h.2.2] at e;cases e
 ·rw[hp] at e;cases e
theorem zn{procs:Int}{demand prio:List Int}{turn:Int}(h:demand.length=prio.length∧demand.length≤8∧within procs 64=true)(hp:prio.all (fun p=>within p 7)=true)(h0:¬demand.length=0):lD procs demand prio turn=some (priosN (pick turn demand.length) 8 (Lh procs demand prio)).out:=by
 unfold lD;rw[if_neg,if_neg h0,zk];rfl
 rintro(e | e | e | e)
 ·exact e h.1
 ·omega
 ·rw[h.2.2] at e;cases e
 ·rw[hp] at e;cases e
theorem GF{procs:Int}{demand prio:List Int}(h:demand.length=prio.length∧demand.length≤8∧within procs 64=true)(hd:∀ z∈demand,z≤1000000):xB (Lh procs demand prio):=by
 have hw:=h.2.2
 unfold within at hw
 simp only[Bool.and_eq_true,decide_eq_true_eq] at hw
 exact⟨hw,h.1.symm,by simp[Lh],hd,fun y hy=>by rw[List.eq_of_mem_replicate hy];exact Int.le_refl _,h.2.1⟩
theorem Ej{d:Deal}(h:xB d){n:Nat}{p y:Int}(hw:d.lC n p=true)(hy:d.out[n]?=some y)(hn:n<d.demand.length):y<1000000∧0≤y:=by
 unfold Deal.lC at hw
 obtain⟨z,hz⟩:=ak hn
 rw[bA hy,bA hz] at hw
 simp only[Bool.and_eq_true,decide_eq_true_eq] at hw
 have:=h.dm z (List.mem_of_getElem? hz)
 exact⟨by omega,h.om y (List.mem_of_getElem? hy)⟩
/-! what New makes -/
theorem Bk{l:List fM}{n:Nat}{p:fM}(h:l[n]?=some p)(hc:de p=0):checkAll (l.drop n)=checkAll (l.drop (n+1)):=by rw[drop_cons h,checkAll,if_pos hc]
theorem te{l:List fM}{n:Nat}{p:fM}(h:l[n]?=some p)(hc:¬de p=0):checkAll (l.drop n)=de p:=by rw[drop_cons h,checkAll,if_neg hc]
theorem zo{procs:Int}{l:List fM}(h:((procs<1∨64<procs)∨(l.length:Int)<1)∨8<(l.length:Int)):ec procs l=1:=by unfold ec;rw[if_pos];omega
theorem Js{procs:Int}{l:List fM}(h:1≤procs∧procs≤64∧1≤l.length∧l.length≤8):ec procs l=checkAll l:=by unfold ec;rw[if_neg];omega
theorem Ek(s:Spc)(f arg:Int):(s.begin f arg).2.2.aF.length=s.aF.length:=by
 unfold Spc.begin
 split
 ·rfl
 ·simp
theorem xD(p:fM):(Spc.new p).aF.length=16:=by rw[Ld,Ek];simp[xy]
end Go.SLYthlllpngkljgfaaGreat
namespace Go.SLYthlllpngkljgfaaGreat
structure kO where
 ar:List Int
 aR:Bool
 ended:Bool
 yielded:Bool
deriving DecidableEq
def kO.z:kO:=⟨[],false,false,false⟩
/-! words as numbers with a point -/
def Nv(a b:Int):Bool:=Ieee.double.order a.toNat b.toNat == some .lt
def Oh(a b:Int):Bool:=Ieee.double.order a.toNat b.toNat == some .eq
def tf(a:Int):Bool := !Oh a a
def jt(a:Int):Int:=if tf a=true then nv else a
def El:Option Nat→Int
 | some r=>jt r
 | none=>nv
def Li(a b:Int):Int:=El (Ieee.double.add a.toNat b.toNat)
def Lj(a b:Int):Int:=El (Ieee.double.sub a.toNat b.toNat)
def Ll(a b:Int):Int:=El (Ieee.double.mul a.toNat b.toNat)
def Lm(a b:Int):Int:=El (Ieee.double.div a.toNat b.toNat)
def l4(a:Int):Int:=jt (Go.FloatKind.f64.nearest (Go.IntKind.i64.wrap a))
def Bl(b:Bool):Int:=if b=true then 1 else 0
def kh(neg:Bool)(win:Ordering)(x y:Nat):Nat :=
 let a:=Go.FloatKind.f64.decode x
 let b:=Go.FloatKind.f64.decode y
 if a == .infinity neg || b == .infinity neg then Go.FloatKind.f64.encode (.infinity neg)
 else if a.isNaN || b.isNaN then 0x7FF8000000000001
 else if a.isZero && b.isZero then (if a.neg == neg then x else y)
 else if a.order b == some win then x else y
def zp(a b:Int):Int:=if (tf a || tf b)=true then nv else jt (kh true .lt a.toNat b.toNat:Nat)
def zq(a b:Int):Int:=if (tf a || tf b)=true then nv else jt (kh false .gt a.toNat b.toNat:Nat)
def xE:Nat:=4890909195324358656
def zr:Nat:=14114281232179134464
def kP(a:Int):Int :=
 if tf a=true then 0 else
 if (Ieee.double.order a.toNat xE == some .gt || Ieee.double.order a.toNat xE == some .eq)=true then 9223372036854775807 else
 if (Ieee.double.order a.toNat zr == some .lt)=true then 9223372036854775808 else A9 (((Go.FloatKind.f64.decode a.toNat).toInt .zero).getD 0)
def ck(op a b:Int):Int :=
 if op=2 then a else if op=3 then A9 (a+b) else if op=4 then A9 (a-b) else if op=5 then A9 (a * b) else if op=6 then Bl (decide (a<b)) else
 if op=7 then Li a b else if op=8 then Lj a b else if op=9 then Ll a b else if op=10 then Lm a b else
 if op=11 then zp a b else if op=12 then zq a b else if op=13 then Bl (Nv a b) else
 if op=14 then kP a else if op=15 then l4 a else 0
/-! plain instructions -/
structure iP where
 fn:Int
 pc:Int
 aI:List Int
def iP.z:iP:=⟨0,0,[0,0,0,0,0,0,0,0]⟩
def iP.tg(f:iP)(a:Int):Int:=f.aI.getD a.toNat 0
def iP.put(f:iP)(a v:Int):iP:={f with aI:=f.aI.set a.toNat v }
def qo(op:Int):Bool:=decide (op=2) || decide (op=14) || decide (op=15)
def lN(f:iP)(m:List Int)(i:Ins):Option (iP×List Int) :=
 if i.op=16 then some ({f with pc:=i.n },m) else
 if i.op=17 then some ({f with pc:=if f.tg i.a=0 then i.n else f.pc+1 },m) else
 if i.op=1 then some ({f.put i.a i.n with pc:=f.pc+1 },m) else
 if i.op=18 then (if f.tg i.b<m.length then some ({f.put i.a (m.getD (f.tg i.b).toNat 0) with pc:=f.pc+1 },m) else none) else
 if i.op=19 then (if f.tg i.a<m.length then some ({f with pc:=f.pc+1 },m.set (f.tg i.a).toNat (f.tg i.b)) else none) else
 some ({f.put i.a (ck i.op (f.tg i.b) (if qo i.op=true then 0 else f.tg i.c)) with pc:=f.pc+1 },m)
/-! threads -/
def Nw:bE:=⟨0,0,[0,0,0,0,0,0,0,0],0,0,0,false, -1,0, -1⟩
def bE.mX(t:bE):iP:=⟨t.fn,t.pc,t.aI⟩
def bE.nM(t:bE)(f:iP):bE:={t with fn:=f.fn,pc:=f.pc,aI:=f.aI }
def bE.tg(t:bE)(a:Int):Int:=t.aI.getD a.toNat 0
def bE.put(t:bE)(a:Int)(v:Int):bE:={t with aI:=t.aI.set a.toNat v }
def Spc.t(s:Spc)(n:Nat):bE:=(s.aF.getD n none).getD Nw
def Spc.aV(s:Spc)(n:Nat)(t:bE):Spc:={s with aF:=s.aF.set n (some t) }
def Spc.at(s:Spc)(n:Int):Option bE:=(aB s.aF n).getD none
def Spc.free(s:Spc)(n:Nat):Spc:={s with table:=slotFreed s.table (s.t n).handle,aF:=s.aF.set n none }
def Spc.tell(s:Spc)(r:Rec):Spc:={s with av:=s.av++[r] }
def dT(p:fM)(f:iP):Option Ins:=if f.fn<0∨f.pc<0 then none else (p.funcs.getD f.fn.toNat [])[f.pc.toNat]?
def bE.fy(t:bE)(y:Int):bE:={(if t.bY = -1 then t else t.put t.bY y).put 7 0 with cQ:=0,bY := -1 }
def bE.jV(t:bE)(y:Int):Rec:=⟨t.handle,t.op,0,if t.bY = -1 then 0 else y,0,true⟩
def Spc.dI(s:Spc)(n:Nat)(y:Int):Spc:=s.aV n ((s.t n).fy y)
/-! an instruction that a thread does -/
structure Dng where
 s:Spc
 n:Nat
 i:Ins
 choice:Int
 out:kO
 ends:List Rec
def Dng.t(d:Dng):bE:=d.s.t d.n
def Dng.aV(d:Dng)(t:bE):Dng:={d with s:=d.s.aV d.n t }
def Dng.a(d:Dng):Int:=d.t.tg d.i.a
def Dng.b(d:Dng):Int:=d.t.tg d.i.b
def Dng.tell(d:Dng)(x y e:Int)(fin:Bool):Dng:={d with s:=d.s.tell ⟨d.t.handle,d.i.op,x,y,e,fin⟩ }
def Dng.pass(d:Dng)(x y e:Int):Dng:=(d.tell x y e true).aV (d.t.put 7 e)
def Dng.block(d:Dng)(cQ bY x y:Int):Dng:={(d.tell x y 0 false).aV {d.t with cQ:=cQ,op:=d.i.op,bY:=bY } with out:={d.out with aR:=true } }
def Dng.cj(d:Dng)(n:Nat)(y:Int):Dng:={d with s:=d.s.dI n y,ends:=d.ends++[(d.s.t n).jV y],out:={d.out with ar:=d.out.ar++[(n:Int)] } }
def Dng.free(d:Dng)(n:Nat):Dng:={d with s:=d.s.free n }
def Dng.ended(d:Dng):Dng:={d with out:={d.out with ended:=true } }
def Dng.fin(d:Dng)(v:Int):Dng :=
 if d.t.bK=true then d.ended.free d.n else
 if d.t.ay = -1 then d.ended.aV {d.t with cQ:=9,value:=v } else (d.ended.cj d.t.ay.toNat v).free d.n
def Dng.finish(d:Dng):kO×Spc:=(d.out,{d.s with av:=d.s.av++d.ends })
def Dng.bB(d:Dng)(g:Gates):Dng:={d with s:={d.s with al:=g } }
def Dng.eK(d:Dng)(k:Nat)(u:Tub):Dng:={d with s:={d.s with cc:=d.s.cc.set k u } }
def Dng.cZ(d:Dng)(u:kF):Dng:={d with s:={d.s with bZ:=u } }
def Dng.vH(d:Dng)(u:lJ):Dng:={d with s:={d.s with aT:=u } }
def Dng.plain(d:Dng):Dng :=
 match lN d.t.mX d.s.mem d.i with
 | some (f,m) =>
  let d1:=if d.i.op=18 then d.tell d.b (d.s.mem.getD d.b.toNat 0) 0 true else if d.i.op=19 then d.tell d.a d.b 0 true else d
  {d1 with s:={d1.s.aV d.n (d.t.nM f) with mem:=m } }
 | none=>(if d.i.op=18 then d.tell d.b 0 6 true else d.tell d.a d.b 6 true).fin 18446744073709551615
def Dng.spawn(d:Dng):Dng :=
 let r:=d.s.begin d.i.n d.b
 let h:=if r.2.1=0 then (r.2.2.t r.1.toNat).handle else 0
 let d1:Dng:={d with s:=r.2.2,out:=if r.2.1=0 then {d.out with ar:=d.out.ar++[r.1] } else d.out }
 (d1.aV (d1.t.put d.i.a h)).pass d.i.n h r.2.1
def Dng.other(d:Dng)(h:Int):Nat×Int :=
 match bz d.s.table h with
 | none=>(0,3)
 | some n=>if n=d.n∨(d.s.t n).bK=true then (0,3) else if (d.s.t n).ay = -1 then (n,0) else (0,4)
def Dng.join(d:Dng):Dng :=
 let x:=d.b
 if (d.other x).2≠0 then d.pass x 0 (d.other x).2 else
 let n:=(d.other x).1
 if (d.s.t n).cQ=9 then ((d.aV (d.t.put d.i.a (d.s.t n).value)).free n).pass x (d.s.t n).value 0 else
 ({d with s:=d.s.aV n {d.s.t n with ay:=d.n } }:Dng).block 4 d.i.a x 0
def Dng.fW(d:Dng):Dng :=
 let x:=d.a
 if (d.other x).2≠0 then d.pass x 0 (d.other x).2 else
 let n:=(d.other x).1
 (if (d.s.t n).cQ=9 then d.free n else ({d with s:=d.s.aV n {d.s.t n with bK:=true } }:Dng)).pass x 0 0
def Dng.dz(d:Dng):List Int→Dng
 | []=>d
 | n::l=>(d.cj n.toNat 0).dz l
def cM(s:Spc):List Int→Spc
 | []=>s
 | n::l=>cM (s.aV n.toNat {s.t n.toNat with cQ:=1 }) l
def Dng.waits(d:Dng):List Int:=((d.s.al.dh.take d.s.eT.bu.toNat).flatMap fun m=>m.wait.map (·.who))
def Dng.lF(d:Dng)(l:List Int):Dng:=({d with s:=cM d.s d.waits }:Dng).dz l
def Dng.given(d:Dng)(n:Int)(ok:Bool):Dng:=if ok=true then d.cj n.toNat 0 else d
def Dng.mutex(d:Dng):Dng :=
 let m:=d.i.n
 if d.i.op=25 then
  let r:=d.s.al.lock d.n m
  if r.2.1=0∧r.1=false then (d.bB r.2.2).block 1 (-1) m 0 else (d.bB r.2.2).pass m 0 r.2.1
 else if d.i.op=26 then
  let r:=d.s.al.unlock d.n m d.choice
  ((d.bB r.2.2.2).pass m 0 r.2.2.1).given r.1 r.2.1
 else
  let r:=d.s.al.wait d.n m d.i.c d.choice
  if r.2.2.1≠0 then (d.bB r.2.2.2).pass m (A9 d.i.c) r.2.2.1 else ((d.bB r.2.2.2).block 2 (-1) m (A9 d.i.c)).given r.1 r.2.1
def Dng.er(d:Dng):Dng :=
 if d.i.op=31 then
  let r:=d.s.al.up d.i.n d.choice
  ((d.bB r.2.2.2).pass d.i.n 0 r.2.2.1).given r.1 r.2.1
 else
  let r:=d.s.al.down d.n d.i.n
  if r.2.1=0∧r.1=false then (d.bB r.2.2).block 3 (-1) d.i.n 0 else (d.bB r.2.2).pass d.i.n 0 r.2.1
def Dng.ask(d:Dng)(block y bY:Int):Dng :=
 if block<64 then
  let r:=d.s.bZ.ask ⟨d.n,block,decide (d.i.op=34),y⟩
  if r.1≠0 then (d.cZ r.2).pass block y r.1 else (d.cZ r.2).block 5 bY block y
 else d.pass block y 1
def Nx:Tub:=⟨0,[],[],[]⟩
def Dng.bV(d:Dng):Tub:=d.s.cc.getD d.i.n.toNat Nx
def Dng.put(d:Dng):Dng :=
 let x:=d.a
 let r:=d.bV.put d.n x
 let d1:=d.eK d.i.n.toNat r.2.2.2
 if r.1=false then d1.block 7 (-1) d.i.n x else
 if r.2.2.1=true then (d1.pass d.i.n x 0).cj r.2.1.toNat x else d1.pass d.i.n x 0
def Dng.get(d:Dng):Dng :=
 let r:=d.bV.get d.n
 let d1:=d.eK d.i.n.toNat r.2.2.2.2
 if r.2.1=false then d1.block 6 d.i.a d.i.n 0 else
 let d2:=(d1.aV (d1.t.put d.i.a r.1)).pass d.i.n r.1 0
 if r.2.2.2.1=true then d2.cj r.2.2.1.toNat 0 else d2
def Dng.sleep(d:Dng):Dng :=
 let x:=d.a
 if x=0 then d.pass x 0 0 else if 1099511627776<x then d.pass x 0 1 else (d.vH (d.s.aT.sleep d.n x).2).block 8 (-1) x 0
def Dng.kernel(d:Dng):Dng :=
 if d.i.op=33 then d.ask d.b 0 d.i.a else
 if d.i.op=34 then d.ask d.a d.b (-1) else
 if d.i.op=35 then d.put else
 if d.i.op=36 then d.get else
 if d.i.op=37 then d.sleep else d.pass d.a 0 0
def Dng.call(d:Dng):Dng :=
 if d.i.op=20 then d.spawn else
 if d.i.op=32 then (d.aV (d.t.put d.i.a d.t.handle)).pass 0 d.t.handle 0 else
 if d.i.op=24 then {d.pass 0 0 0 with out:={d.out with yielded:=true } } else
 if d.i.op=21 then d.join else
 if d.i.op=22 then d.fW else
 if d.i.op=23 then (d.tell d.a 0 0 true).fin d.a else
 if d.i.op=25∨d.i.op=26∨d.i.op=27 then d.mutex else
 if d.i.op=28∨d.i.op=29 then
  let r:=d.s.al.signal d.i.n d.choice (decide (d.i.op=29))
  ((d.bB r.2.2).pass d.i.n 0 r.2.1).lF r.1
 else
 if d.i.op=30∨d.i.op=31 then d.er else d.kernel
/-! a space's steps -/
def Spc.dL(s:Spc)(n:Nat)(i:Ins)(choice:Int):Dng:=⟨s,n,i,choice,kO.z,[]⟩
def Spc.run(s:Spc)(n choice:Int):kO×Int×Spc :=
 match s.at n with
 | none=>(kO.z,1,s)
 | some t =>
  if t.cQ≠0 then (kO.z,4,s) else
  match dT s.eT t.mX with
  | none=>let r:=(((s.dL n.toNat ⟨23,0,0,0,0⟩ choice).tell 0 0 0 true).fin 0).finish;(r.1,0,r.2)
  | some i =>
   let d:=s.dL n.toNat i choice
   let r:=(if cls i.op=1 then d.plain else (d.aV {t with pc:=t.pc+1 }).call).finish
   (r.1,0,r.2)
def Spc.done(s:Spc)(k:Int):kO×Int×Spc :=
 let r:=s.bZ.done k
 if r.2.2.1=false then (kO.z,3,s) else
 let s1:Spc:={s with bZ:=r.2.2.2 }
 (⟨[r.1.who],false,false,false⟩,0,(s1.dI r.1.who.toNat r.2.1).tell ((s1.t r.1.who.toNat).jV r.2.1))
def cI(s:Spc):List Int→Spc
 | []=>s
 | n::l=>cI ((s.dI n.toNat 0).tell ((s.t n.toNat).jV 0)) l
def Spc.tick(s:Spc):kO×Spc:=(⟨s.aT.due,false,false,false⟩,cI {s with aT:=s.aT.tick.2 } s.aT.due)
def Spc.class(s:Spc)(n:Int):Int :=
 match s.at n with
 | none=>0
 | some t=>if t.cQ≠0 then 0 else match dT s.eT t.mX with | none=>2 | some i=>cls i.op
end Go.SLYthlllpngkljgfaaGreat
namespace Go.SLYthlllpngkljgfaaGreat
open Go Go.RowKit
def Em(P:Program)(W:World)(f:FuncId)(args:List Value)(pre:List aa)(X:Type)(en:X→Ending)(fact:X→Prop)(post:X→List aa):Prop :=
 ∀ (F:aa) (w:World),Sat W w (sep (seps pre) F)→Calls P f args.toArray w (fun e w'=>∃ x,e=en x∧fact x∧Sat W w' (sep (seps (post x)) F))
section
variable{P:Program}{W:World}{N:Nat}{Q:Exit→Act→World→Prop}{L:List (Nat×Option Value)}{H K R:List aa}{O:Array Oper}{T:TypeId}{rest:List Oper}
theorem Fn.b{f:FuncId}{args:List Value}{pre:List aa}{X:Type}{val:X→Value}{fact:X→Prop}{post:X→List aa}(h:Fn P W f args pre X val fact post):Em P W f args pre X (fun x=>.returned (val x)) fact post:=h
theorem Em.intro{f:FuncId}{fn:Func}{c:Code}{args:List Value}{pre:List aa}{X:Type}{en:X→Ending}{fact:X→Prop}{post:X→List aa}(hf:P.funcs[f]?=some fn)(hb:fn.body=some c)(hn:fn.ntmps=N)(ha:Nat.ble args.length N=true)
  (h:∀ F,aq P W N (bodyPost P fn (fun e w'=>∃ x,e=en x∧fact x∧Sat W w' (sep (seps (post x)) F))) c (enum 0 args) (pre++[F])):Em P W f args pre X en fact post:=fun F w hs=>by
 have hle:args.length≤N:=Nat.ble_eq.mp ha
 refine calls_of_wp hf hb (h F _ w ⟨?_,fun k v hv=>?_,rfl⟩ ?_)
 ·simp[hn];omega
 ·obtain⟨_,h2⟩:=j4 args 0 k v hv
  have hk:k<args.length:=by
   have:=(List.getElem?_eq_some_iff.1 h2).1;simpa using this
  show(args.toArray++Array.replicate (fn.ntmps-args.toArray.size) undef)[k]?=some v
  rw[Array.getElem?_append_left (by simpa using hk)]
  simpa using h2
 ·rw[ah];simp only[seps];rw[aJ];exact hs
theorem aS.MI{f:FuncId}{xs:Array Operand}{ts:Array TypeId}{pos:String}{after:Array Edge}{d:Nat}{args:List Value}{pre:List aa}{X:Type}{en:X→Ending}{fact:X→Prop}{post:X→List aa}(hN:Nat.blt d N=true)
  (hc:∀ args w,(callFunc f args).run P w = .ok (.enter f args) w) (hx:evs L xs.toList=some args) (hfn:Em P W f args pre X en fact post) (ht:ax H pre R) (hno:∀ x,en x≠.outgrown)
  (h1:∀ x v,en x = .returned v→fact x→aS P W N O Q rest ((d,some v)::L) (post x++R)) (h2:∀ x c,en x = .panicked c→fact x→bx W N Q (.panic c) L (post x++R)) :
  aS P W N O Q (⟨some d,.call ⟨.value (.func f),xs,ts⟩,T,pos,after,none⟩::rest) L H:=fun a w ha hs=>wpList_plain rfl fun Kp hK=>by
 have e:xs.map a.eval=args.toArray:=by
  rw[← ha.nr hx, ← List.map_toArray]
 have hs:=ht.sat hs
 rw[ah] at hs
 unfold Oper.wp
 have hr:(execOp a.eval ⟨some d,.call ⟨.value (.func f),xs,ts⟩,T,pos,after,none⟩).run P w = .ok (.enter f args.toArray) w:=by
  simp[execOp,resolve,Act.eval,Deferred.ofValue,invoke,e,hc]
 rw[hr]
 simp only[Oper.upon]
 refine(hfn _ w hs).mono fun en' w' ⟨x,he,hf,hs'⟩=>?_
 rw[← ah] at hs'
 subst he
 cases e2:en x with
 | returned v=>exact hK _ _ (h1 x v e2 hf _ _ (ha.put (Nat.blt_eq.mp hN) _) hs')
 | panicked c=>exact h2 x c e2 hf _ _ ha hs'
 | outgrown=>exact absurd e2 (hno x)
theorem bx.panics{fn:Func}{R:Ending→World→Prop}{c:List PanicEntry}(h:∀ w,Sat W w (seps H)→R (.panicked c) w):bx W N (bodyPost P fn R) (.panic c) L H:=fun a w ha hs=>by
 unfold bodyPost
 exact⟨ha.defers,h w hs⟩
theorem Y.Jt{t:TypeId}{u:TypeDesc}{x:Operand}{v:Value}(hu:P.underlying t=some u)(hn:(match u with | .interface _=>true | _=>false)=false)(hx:ev L x=some v):Y P W N (.makeInterface t x) T L H (.iface t v):=fun dst pos after guard a w ha hs=>by
 simp only[execOp,ha.eval hx]
 refine bN ?_
 cases u <;> first | (simp at hn;done) | simp[Instr.makeInterface,run_underlying hu]
theorem aS.panic{t:TypeId}{x:Operand}{v:Value}{pos:String}{after:Array Edge}{d:Option Nat}(hx:ev L x=some (.iface t v))(h:bx W N Q (.panic [{v:=.iface t v,recovered:=false }]) L H) :
  aS P W N O Q (⟨d,.panic x,T,pos,after,none⟩::rest) L H:=fun a w ha hs=>wpList_plain rfl fun Kp hK=>by
 unfold Oper.wp
 have hr:(execOp a.eval ⟨d,.panic x,T,pos,after,none⟩).run P w = .halt (.panic (.iface t v)) w:=by
  simp only[execOp,ha.eval hx];rfl
 rw[hr]
 exact h a w ha hs
end
end Go.SLYthlllpngkljgfaaGreat
namespace Go.SLYthlllpngkljgfaaGreat
open Go Go.RowKit
/-! a part apart, and how it is laid back -/
def q7{X:Type}(B C:X→aa):aa:=fun h=>∀ x h',I8 h' h→B x h'→C x (join h' h)
theorem qp{X:Type}{B C:X→aa}(x:X):∀ h,seps [B x,q7 B C] h→C x h:=fun h a=>by
 simp only[seps,aJ] at a
 obtain⟨h1,h2,b,c,d,rfl⟩:=a
 exact c x h1 d b
theorem tm{X:Type}{B C:X→aa}{R:aa}(f:∀ x h,sep (B x) R h→C x h):∀ h,R h→q7 B C h:=fun h r x h' d b=>f x _ ⟨h',h,b,r,d,rfl⟩
theorem jE{A B:aa}{h:jD}:seps [A,B] h↔sep A B h:=by simp only[seps,aJ]
section
variable{α:Type}{enc:α→List Value}{k:Nat}{v:Value}{xs:List α}
theorem xF{i:Nat}{x:α}(hx:xs[i]?=some x):∀ h,sl enc k v xs h→sep (arr (blk v) (eg v+i * k) (enc x)) (hole enc k v xs i) h:=fun h s=>by
 have hi:=(List.getElem?_eq_some_iff.1 hx).1
 rcases s with ⟨_,rfl,_⟩ | ⟨b,cap,sp,rfl,hle,hk,hsp,s⟩
 ·simp at hx
 ·have hl:(rows enc (xs.take i)).length=i * k:=by
   rw[bo fun y hy=>hk y (List.mem_of_mem_take hy),List.length_take,Nat.min_eq_left (Nat.le_of_lt hi)]
  have hxk:=hk x (List.mem_of_getElem? hx)
  have e:rows enc xs++sp=rows enc (xs.take i)++(enc x++(rows enc (xs.drop (i+1))++sp)):=by
   conv=>lhs;rw[sL hx]
   rw[cn,eh];simp
  rw[e,dR,dR,hl,hxk,aY] at s
  simp only[blk,eg]
  refine ba (fun _ h=>h) (fun h hh=>⟨b,cap,sp,rfl,hle,hk,hsp,?_⟩) h s
  rw[show(i+1) * k=0+i * k+k from by rw[Nat.succ_mul];omega];exact hh
theorem oO{i:Nat}{x':α}(hi:i<xs.length)(hx':(enc x').length=k):∀ h,sep (arr (blk v) (eg v+i * k) (enc x')) (hole enc k v xs i) h→sl enc k v (xs.set i x') h:=fun h s=>by
 obtain⟨x,hx⟩:∃ x,xs[i]?=some x:=⟨xs[i],by simp[hi]⟩
 obtain⟨h3,h4,a3,⟨b,cap,sp,hv,hle,hk,hsp,a4⟩,d',e'⟩:=s
 subst hv
 have s':sep (arr b (0+i * k) (enc x')) (sep (arr b 0 (rows enc (xs.take i))) (arr b ((i+1) * k) (rows enc (xs.drop (i+1))++sp))) h:=⟨h3,h4,a3,a4,d',e'⟩
 have hl:(rows enc (xs.take i)).length=i * k:=by
  rw[bo fun y hy=>hk y (List.mem_of_mem_take hy),List.length_take,Nat.min_eq_left (Nat.le_of_lt hi)]
 have e2:rows enc (xs.set i x')++sp=rows enc (xs.take i)++(enc x'++(rows enc (xs.drop (i+1))++sp)):=by
  rw[A1 hx,cn,eh];simp
 have hk':∀ y∈xs.set i x',(enc y).length=k:=fun y hy=>by
  rcases List.mem_or_eq_of_mem_set hy with h | h
  ·exact hk y h
  ·subst h;exact hx'
 right
 refine⟨b,cap,sp,by simp,by simpa using hle,hk',by simpa using hsp,?_⟩
 rw[e2,dR,dR,hl,hx',aY]
 rwa [show(i+1) * k=0+i * k+k from by rw[Nat.succ_mul];omega] at s'
theorem l5(h0:xs≠[]):∀ h,sl enc k v xs h→ ∃ b cap,v = .slice (some ⟨b,0,none⟩) xs.length cap∧xs.length≤cap:=fun h s=>by
 rcases s with ⟨_,hx0,_⟩ | ⟨b,cap,_,hv,hle,_⟩
 ·exact absurd hx0 h0
 ·exact⟨b,cap,hv,hle⟩
end
theorem l6{α:Type}(xs:List α)(i:Nat):xs.take i++xs.drop (i+1)=xs.eraseIdx i:=(List.eraseIdx_eq_take_drop_succ ..).symm
theorem oP{b o:Nat}{u:Value}{cs:List Value}:∀ h,arr b o (u::cs) h→seps [arr b o [u],arr b (o+1) cs] h:=fun h a=>by
 rw[show u::cs=[u]++cs from rfl,dR] at a
 exact jE.2 a
theorem vI{b o:Nat}{u:Value}{cs:List Value}:∀ h,seps [arr b o [u],arr b (o+1) cs] h→arr b o (u::cs) h:=fun h a=>by
 rw[show u::cs=[u]++cs from rfl,dR]
 exact jE.1 a
/-! gates -/
def eb(b o:Nat)(m:eI):aa:=iS (fun _:Value=>True) fun u=>[arr b o [u,.bool m.held,.int .i64 m.owner],sl dn 2 u m.wait]
def hD(b o:Nat)(m:kz):aa:=iS (fun _:Value=>True) fun u=>[arr b o [u,.int .i64 m.count],sl dn 2 u m.wait]
theorem GG{v:Value}{l:List eI}{i:Nat}{m:eI}(hm:l[i]?=some m):∀ h,dY v l h→seps [eb (blk v) (eg v+i * 3) m,q7 (eb (blk v) (eg v+i * 3)) (fun m'=>dY v (l.set i m'))] h:=fun h ⟨xs,hxs,a⟩=>by
 obtain⟨x,hx⟩:=ak (show i<xs.length by rw[← List.length_map (f:=(·.2)),hxs];exact(List.getElem?_eq_some_iff.1 hm).1)
 have hxm:x.2=m:=by have:=eQ hxs hx;rw[hm] at this;exact(Option.some.inj this).symm
 rw[jE] at a ⊢
 have a2:sep (sep (arr (blk v) (eg v+i * 3) (lM x)) (hole lM 3 v xs i)) (sep (sl dn 2 x.1 x.2.wait) (aD (fun x:Value×eI=>sl dn 2 x.1 x.2.wait) (xs.eraseIdx i))) h:=ba (xF hx) (fun g b=>by rw[jl _ hx] at b;exact b) h a
 rw[aU,aY (hole lM 3 v xs i), ← aU] at a2
 refine ba ?_ ?_ h a2
 ·intro g b;exact⟨x.1,trivial,by rw[jE, ← hxm];exact b⟩
 ·refine tm fun m' g b=>?_
  obtain⟨h1,h2,⟨u, -,b1⟩,b2,d,rfl⟩:=b
  refine⟨xs.set i (u,m'),by show(xs.set i (u,m')).map (·.2)=_;rw[List.map_set,show xs.map (·.2)=l from hxs],?_⟩
  rw[jE] at b1 ⊢
  have b3:sep (sep (arr (blk v) (eg v+i * 3) (lM (u,m'))) (sl dn 2 u m'.wait)) (sep (hole lM 3 v xs i) (aD (fun x:Value×eI=>sl dn 2 x.1 x.2.wait) (xs.eraseIdx i))) (join h1 h2):=⟨h1,h2,b1,b2,d,rfl⟩
  rw[aU,aY (sl dn 2 u m'.wait), ← aU] at b3
  refine ba (oO (List.getElem?_eq_some_iff.1 hx).1 rfl) (fun g c=>?_) _ b3
  rw[gL _ _ (List.getElem?_eq_some_iff.1 hx).1];exact c
theorem GH{v:Value}{l:List kz}{i:Nat}{m:kz}(hm:l[i]?=some m):∀ h,fw v l h→seps [hD (blk v) (eg v+i * 2) m,q7 (hD (blk v) (eg v+i * 2)) (fun m'=>fw v (l.set i m'))] h:=fun h ⟨xs,hxs,a⟩=>by
 obtain⟨x,hx⟩:=ak (show i<xs.length by rw[← List.length_map (f:=(·.2)),hxs];exact(List.getElem?_eq_some_iff.1 hm).1)
 have hxm:x.2=m:=by have:=eQ hxs hx;rw[hm] at this;exact(Option.some.inj this).symm
 rw[jE] at a ⊢
 have a2:sep (sep (arr (blk v) (eg v+i * 2) (lV x)) (hole lV 2 v xs i)) (sep (sl dn 2 x.1 x.2.wait) (aD (fun x:Value×kz=>sl dn 2 x.1 x.2.wait) (xs.eraseIdx i))) h:=ba (xF hx) (fun g b=>by rw[jl _ hx] at b;exact b) h a
 rw[aU,aY (hole lV 2 v xs i), ← aU] at a2
 refine ba ?_ ?_ h a2
 ·intro g b;exact⟨x.1,trivial,by rw[jE, ← hxm];exact b⟩
 ·refine tm fun m' g b=>?_
  obtain⟨h1,h2,⟨u, -,b1⟩,b2,d,rfl⟩:=b
  refine⟨xs.set i (u,m'),by show(xs.set i (u,m')).map (·.2)=_;rw[List.map_set,show xs.map (·.2)=l from hxs],?_⟩
  rw[jE] at b1 ⊢
  have b3:sep (sep (arr (blk v) (eg v+i * 2) (lV (u,m'))) (sl dn 2 u m'.wait)) (sep (hole lV 2 v xs i) (aD (fun x:Value×kz=>sl dn 2 x.1 x.2.wait) (xs.eraseIdx i))) (join h1 h2):=⟨h1,h2,b1,b2,d,rfl⟩
  rw[aU,aY (sl dn 2 u m'.wait), ← aU] at b3
  refine ba (oO (List.getElem?_eq_some_iff.1 hx).1 rfl) (fun g c=>?_) _ b3
  rw[gL _ _ (List.getElem?_eq_some_iff.1 hx).1];exact c
theorem GI{v:Value}{l:List (List eS)}{i:Nat}{m:List eS}(hm:l[i]?=some m):∀ h,iu v l h→seps [iL (blk v) (eg v+i * 1) m,q7 (iL (blk v) (eg v+i * 1)) (fun m'=>iu v (l.set i m'))] h:=fun h ⟨xs,hxs,a⟩=>by
 obtain⟨x,hx⟩:=ak (show i<xs.length by rw[← List.length_map (f:=(·.2)),hxs];exact(List.getElem?_eq_some_iff.1 hm).1)
 have hxm:x.2=m:=by have:=eQ hxs hx;rw[hm] at this;exact(Option.some.inj this).symm
 rw[jE] at a ⊢
 have a2:sep (sep (arr (blk v) (eg v+i * 1) (ej x)) (hole ej 1 v xs i)) (sep (sl dn 2 x.1 x.2) (aD (fun x:Value×List eS=>sl dn 2 x.1 x.2) (xs.eraseIdx i))) h:=ba (xF hx) (fun g b=>by rw[jl _ hx] at b;exact b) h a
 rw[aU,aY (hole ej 1 v xs i), ← aU] at a2
 refine ba ?_ ?_ h a2
 ·intro g b;exact⟨x.1,trivial,by rw[jE, ← hxm];exact b⟩
 ·refine tm fun m' g b=>?_
  obtain⟨h1,h2,⟨u, -,b1⟩,b2,d,rfl⟩:=b
  refine⟨xs.set i (u,m'),by show(xs.set i (u,m')).map (·.2)=_;rw[List.map_set,show xs.map (·.2)=l from hxs],?_⟩
  rw[jE] at b1 ⊢
  have b3:sep (sep (arr (blk v) (eg v+i * 1) (ej (u,m'))) (sl dn 2 u m')) (sep (hole ej 1 v xs i) (aD (fun x:Value×List eS=>sl dn 2 x.1 x.2) (xs.eraseIdx i))) (join h1 h2):=⟨h1,h2,b1,b2,d,rfl⟩
  rw[aU,aY (sl dn 2 u m'), ← aU] at b3
  refine ba (oO (List.getElem?_eq_some_iff.1 hx).1 rfl) (fun g c=>?_) _ b3
  rw[gL _ _ (List.getElem?_eq_some_iff.1 hx).1];exact c
theorem CT{b o:Nat}{m:eI}:∀ h,seps [iL b o m.wait,arr b (o+1) [.bool m.held,.int .i64 m.owner]] h→eb b o m h:=fun h a=>by
 rw[jE] at a
 obtain⟨h1,h2,⟨u, -,b1⟩,b2,d,rfl⟩:=a
 refine⟨u,trivial,?_⟩
 rw[jE] at b1 ⊢
 have b3:sep (sep (arr b o [u]) (sl dn 2 u m.wait)) (arr b (o+1) [.bool m.held,.int .i64 m.owner]) (join h1 h2):=⟨h1,h2,b1,b2,d,rfl⟩
 rw[aU,iq (sl dn 2 u m.wait), ← aU] at b3
 exact ba (fun g c=>vI g (jE.2 c)) (fun _ c=>c) _ b3
theorem rS{b o:Nat}{m:kz}:∀ h,seps [iL b o m.wait,arr b (o+1) [.int .i64 m.count]] h→hD b o m h:=fun h a=>by
 rw[jE] at a
 obtain⟨h1,h2,⟨u, -,b1⟩,b2,d,rfl⟩:=a
 refine⟨u,trivial,?_⟩
 rw[jE] at b1 ⊢
 have b3:sep (sep (arr b o [u]) (sl dn 2 u m.wait)) (arr b (o+1) [.int .i64 m.count]) (join h1 h2):=⟨h1,h2,b1,b2,d,rfl⟩
 rw[aU,iq (sl dn 2 u m.wait), ← aU] at b3
 exact ba (fun g c=>vI g (jE.2 c)) (fun _ c=>c) _ b3
def KJ(v:Value)(n k:Nat)(i:Int):Value:=.pointer (if 0≤i∧i<(n:Int) then some ⟨blk v,eg v+i.toNat * k,none⟩ else none)
/-! searches -/
def idxP{α:Type}(p:α→Bool):List α→Nat→Int
 | [],_ => -1
 | x::l,k=>if p x=true then (k:Int) else idxP p l (k+1)
theorem iy{α:Type}{p:α→Bool}{l:List α}{k:Nat}{x:α}(h:l[k]?=some x)(hp:p x=true):idxP p (l.drop k) k=(k:Int):=by rw[drop_cons h,idxP,if_pos hp]
theorem gA{α:Type}{p:α→Bool}{l:List α}{k:Nat}{x:α}(h:l[k]?=some x)(hp:p x=false):idxP p (l.drop k) k=idxP p (l.drop (k+1)) (k+1):=by rw[drop_cons h,idxP,if_neg (by rw[hp];simp)]
theorem iz{α:Type}{p:α→Bool}{l:List α}{k:Nat}(h:l.length≤k):idxP p (l.drop k) k = -1:=by rw[List.drop_of_length_le h];rfl
theorem iA{α:Type}{p:α→Bool}:∀ (l:List α) (k:Nat),decide (0≤idxP p l k)=l.any p
 | [],_=>rfl
 | x::l,k=>by
  rw[idxP,List.any_cons]
  cases h:p x with
  | true=>rw[if_pos rfl];simp
  | false=>rw[if_neg (by simp),iA l (k+1),Bool.false_or]
theorem xG{α β:Type}{p:β→Bool}{xs:List (α×β)}{l:List β}(h:xs.map (·.2)=l):(xs.any fun x=>p x.2)=l.any p:=by rw[← h,List.any_map];rfl
end Go.SLYthlllpngkljgfaaGreat
namespace Go.SLYthlllpngkljgfaaGreat
open Go Go.RowKit
theorem getD_some{α:Type}{l:List α}{d:α}{n:Nat}(h:n<l.length):l[n]?=some (l.getD n d):=by
 rw[List.getD_eq_getElem?_getD,List.getElem?_eq_getElem h];rfl
section
variable{P:Program}{W:World}{N:Nat}{L:List (Nat×Option Value)}{H:List aa}{T:TypeId}
theorem Y.val{op:Op}{u v:Value}(h:Y P W N op T L H u)(e:u=v):Y P W N op T L H v:=e ▸ h
end
/-! slots -/
def hN(h:Int):Nat:=(h % 65536-1).toNat
def jW(l:List (Bool×Int))(n:Nat):Bool×Int:=l.getD n (false,0)
theorem vJ{l:List (Bool×Int)}{h:Int}(e:h % 65536=0):bz l h=none:=by unfold bz;rw[if_pos e]
theorem find_eq{l:List (Bool×Int)}{h:Int}(e:¬h % 65536=0):bz l h=if (decide ((l.length:Int)≤(hN h:Int)) || !(jW l (hN h)).1 || decide (ei (jW l (hN h)).2 (hN h)≠h))=true then none else some (hN h):=by
 unfold bz
 rw[if_neg e]
 have hb:0≤h % 65536-1:=by omega
 have hc:(hN h:Int)=h % 65536-1:=by unfold hN;omega
 rw[hc]
 by_cases hl:(l.length:Int)≤h % 65536-1
 ·rw[show l[(h % 65536-1).toNat]?=none from by rw[List.getElem?_eq_none];omega]
  simp[hl]
 ·rw[getD_some (d:=(false,0)) (show(h % 65536-1).toNat<l.length by omega)]
  unfold jW hN
  simp only[hl,decide_false,Bool.false_or]
  generalize l.getD (h % 65536-1).toNat (false,0)=o
  obtain⟨u,t⟩:=o
  cases u <;> simp <;> rfl
theorem CU{l:List (Bool×Int)}{h:Int}{n:Nat}(e:bz l h=some n):n<l.length∧n=hN h∧(jW l n).1=true∧ei (jW l n).2 n=h:=by
 by_cases e0:h % 65536=0
 ·rw[vJ e0] at e;cases e
 ·rw[find_eq e0] at e
  split at e
  ·cases e
  ·rename_i hc
   cases e
   simp only[Bool.not_eq_true,Bool.or_eq_false_iff,decide_eq_false_iff_not,Bool.not_eq_false',ne_eq,Decidable.not_not] at hc
   exact⟨by omega,rfl,hc.1.2,hc.2⟩
theorem Ju{h:Int}(e:¬h % 65536=0):h % 65536-1=(hN h:Int):=by unfold hN;omega
def MJ(o:Option Nat):Value:=.tuple #[.int .i64 ((o.getD 0:Nat):Int),.bool o.isSome]
theorem zt{h:Int}(a:0≤h):h.tmod 65536=h % 65536:=Int.tmod_eq_emod_of_nonneg a
theorem Bm{l:List (Bool×Int)}{h:Int}(e:bz l h=none):slotFreed l h=l:=by unfold slotFreed;rw[e]
theorem tn{l:List (Bool×Int)}{h:Int}{n:Nat}(e:bz l h=some n):slotFreed l h=l.set n (false,(jW l n).2):=by unfold slotFreed;rw[e];rfl
theorem CV{t:Int}{n:Nat}(hn:0<n)(hb:n≤1000000000) : -9223372036854775808≤t.tmod n+n∧t.tmod n+n≤9223372036854775807:=by
 have h1:=Int.lt_tmod_of_pos t (show(0:Int)<n by omega)
 have h2:=Int.tmod_lt_of_pos t (show(0:Int)<n by omega)
 omega
/-! gates -/
def Ox(l:List eS):Prop:=l.length≤1000000
structure gO(g:Gates):Prop where
 m:g.dh.length≤1000000
 c:g.gZ.length≤1000000
 s:g.er.length≤1000000
 mw:∀ x∈g.dh,x.wait.length≤1000000
 cw:∀ x∈g.gZ,x.length≤1000000
 sw:∀ x∈g.er,x.wait.length≤1000000
section
variable{W:World}
theorem xH{α β:Type}{enc:α→List Value}{k:Nat}{f:β→Value}{g:β→List α}{xs:List β}{x:β}(hx:x∈xs){H:List aa}(t:At H (aD (fun x=>sl enc k (f x) (g x)) xs)):Rd W H enc k (f x) (g x):=by
 obtain⟨i,hi⟩:=List.getElem?_of_mem hx
 exact Rd.sub t fun h a=>⟨_,by rw[jl _ hi] at a;exact a⟩
end
theorem GJ{g:Gates}{xm:List (Value×eI)}{xc:List (Value×List eS)}{xs:List (Value×kz)}{who:Int}(h1:xm.map (·.2)=g.dh)(h2:xc.map (·.2)=g.gZ)(h3:xs.map (·.2)=g.er) :
  ((xm.any fun x=>lI x.2.wait who) || (xc.any fun x=>lI x.2 who) || (xs.any fun x=>lI x.2.wait who))=g.waits who:=by
 unfold Gates.waits
 rw[xG (p:=fun m:eI=>lI m.wait who) h1,xG (p:=fun m:List eS=>lI m who) h2,xG (p:=fun m:kz=>lI m.wait who) h3]
theorem xI{l:List eS}{c:Int}(h:l.length=0):aP l c=(⟨0,0⟩,false,l):=by unfold aP;rw[if_pos h]
theorem rT{l:List eS}{c:Int}(h:¬l.length=0):aP l c=(l.getD (pick c l.length) ⟨0,0⟩,true,l.eraseIdx (pick c l.length)):=by unfold aP;rw[if_neg h]
theorem eL{α:Type}{l:List α}{i:Int}(h:¬(0≤i∧i<(l.length:Int))):aB l i=none:=by
 unfold aB
 split
 ·rfl
 ·rw[List.getElem?_eq_none];omega
theorem cC{α:Type}{l:List α}{i:Int}(h:0≤i∧i<(l.length:Int)):∃ x,l[i.toNat]?=some x∧aB l i=some x:=by
 obtain⟨x,hx⟩:=ak (show i.toNat<l.length by omega)
 exact⟨x,hx,by unfold aB;rw[if_neg (by omega),hx]⟩
theorem bF{α:Type}{l:List α}{i:Int}{x:α}(h:aB l i=some x):0≤i∧i<(l.length:Int)∧l[i.toNat]?=some x:=by
 unfold aB at h
 split at h
 ·cases h
 ·have:=(List.getElem?_eq_some_iff.1 h).1
  exact⟨by omega,by omega,h⟩
theorem rU{v:Value}{n k:Nat}{i:Int}(h:¬(0≤i∧i<(n:Int))):KJ v n k i = .pointer none:=by unfold KJ;rw[if_neg h]
theorem eY{v:Value}{n k:Nat}{i:Int}(h:0≤i∧i<(n:Int)):KJ v n k i = .pointer (some ⟨blk v,eg v+i.toNat * k,none⟩):=by unfold KJ;rw[if_pos h]
def Jv:eI:=⟨[],false,0⟩
theorem xJ{m:eI}{who:Int}(h:m.held=true):m.lock who=(false,{m with wait:=m.wait++[⟨who,0⟩] }):=by unfold eI.lock;rw[if_pos h]
theorem xK{m:eI}{who:Int}(h:m.held=false):m.lock who=(true,{m with held:=true,owner:=who }):=by unfold eI.lock;rw[if_neg (by rw[h];simp)]
def Gates.rowOf(g:Gates)(kind n:Int):List eS :=
 if kind=1 then ((aB g.dh n).getD Jv).wait else if kind=2 then (aB g.gZ n).getD [] else if kind=3 then ((aB g.er n).getD ⟨[],0⟩).wait else []
end Go.SLYthlllpngkljgfaaGreat
namespace Go.SLYthlllpngkljgfaaGreat
open Go Go.RowKit
structure qq(N:Nat)(L:List (Nat×Option Value))(D:List Deferred)(a:Act):Prop where
 size:a.tmps.size=N
 get:∀ k v,look L k=some v→a.tmps[k]?=some v
 defers:a.defers=D
theorem qq.env{N:Nat}{L:List (Nat×Option Value)}{D:List Deferred}{a:Act}(h:qq N L D a):Env N L (cZ a []):=⟨h.size,h.get,rfl⟩
theorem nN(a:Act)(ds:List Deferred):(cZ a ds).eval=a.eval:=by funext x;cases x <;> rfl
theorem qq.put{N:Nat}{L:List (Nat×Option Value)}{D:List Deferred}{a:Act}(h:qq N L D a){d:Nat}(hd:d<N)(v:Value):qq N ((d,some v)::L) D (a.put (some d) v) :=
 ⟨(h.env.put hd v).size,(h.env.put hd v).get,h.defers⟩
section
variable{P:Program}{W:World}{N:Nat}{Q:Exit→Act→World→Prop}{L:List (Nat×Option Value)}{H K R:List aa}{O:Array Oper}{T:TypeId}{rest:List Oper}{D:List Deferred}{ks:List Nat}
theorem GK{o:Oper}{a:Act}{w:World}{Kp Kp':Act→World→Prop}{Q':Exit→Act→World→Prop}(h:∀ ds u w',Kp ((cZ a ds).put o.dst u) w'→Kp' ((cZ a (ds++a.defers)).put o.dst u) w')(hh:o.wp P (cZ a []) w Kp QF):o.wp P a w Kp' Q':=by
 unfold Oper.wp at *
 rw[nN] at hh
 generalize (execOp a.eval o).run P w=r at *
 have h0:=h []
 rw[List.nil_append,show cZ a a.defers=a from rfl] at h0
 cases r with
 | ok n w' =>
  cases n <;> simp only[Oper.upon] at hh ⊢
  case value v=>exact h0 _ _ hh
  case skip=>exact h0 _ _ hh
  case enter f args =>
   refine Calls.mono hh (fun e w'' he=>?_)
   cases e with
   | returned v=>exact h0 _ _ he
   | panicked c=>exact he.elim
   | outgrown=>obtain⟨_,_,hf⟩:=he;exact hf.elim
  case row r' args=>exact Rows.mono hh (fun v w'' he=>h0 _ _ he)
  case defer d=>exact h [d] undef w' hh
 | halt x w'=>cases x <;> simp only[Oper.upon] at hh ⊢ <;> exact hh.elim
theorem af.d{o:Oper}{k:List (Nat×Option Value)→List aa→Prop}{a:Act}{w:World}{Kp:Act→World→Prop}{Q':Exit→Act→World→Prop}(hd:af P W N o L H k)(ha:qq N L D a)(hs:Sat W w (seps H))(h:∀ L' H',k L' H'→ ∀ a' w',qq N L' D a'→Sat W w' (seps H')→Kp a' w'):o.wp P a w Kp Q':=by
 refine GK (Kp:=fun a' w'=>∃ L' H',k L' H'∧Env N L' a'∧Sat W w' (seps H')) (fun ds u w' ⟨L',H',hk,he,hs'⟩=>?_) (hd _ w ha.env hs _ fun L' H' hk a' w' ha' hs'=>⟨L',H',hk,ha',hs'⟩)
 have e:((cZ a ds).put o.dst u).defers=ds:=by cases o.dst <;> rfl
 rw[he.defers] at e
 subst e
 refine h L' H' hk _ w' ⟨?_,fun k v hv=>?_,?_⟩ hs'
 ·have:=he.size;cases ho:o.dst <;> rw[ho] at this <;> exact this
 ·have:=he.get k v hv;cases ho:o.dst <;> rw[ho] at this <;> exact this
 ·rw[List.nil_append];cases o.dst <;> exact ha.defers
theorem Y.d{op:Op}{v:Value}(hy:Y P W N op T L H v)(dst:Option Tmp)(pos:String)(after:Array Edge)(guard:Option (Nat×Bool)){a:Act}{w:World}(ha:qq N L D a)(hs:Sat W w (seps H)):(execOp a.eval ⟨dst,op,T,pos,after,guard⟩).run P w = .ok (.value v) w:=by
 have:=hy dst pos after guard _ w ha.env hs
 rwa [nN] at this
def tp(W:World)(N:Nat)(D:List Deferred)(Q:Exit→Act→World→Prop)(e:Exit)(L:List (Nat×Option Value))(H:List aa):Prop:=∀ a w,qq N L D a→Sat W w (seps H)→Q e a w
def kQ(P:Program)(W:World)(N:Nat)(D:List Deferred)(Q:Exit→Act→World→Prop)(c:Code)(L:List (Nat×Option Value))(H:List aa):Prop:=∀ a w,qq N L D a→Sat W w (seps H)→c.wp P Q a w
def fO(P:Program)(W:World)(N:Nat)(D:List Deferred)(O:Array Oper)(Q:Exit→Act→World→Prop)(ops:List Oper)(L:List (Nat×Option Value))(H:List aa):Prop:=∀ a w,qq N L D a→Sat W w (seps H)→wpList P O Q ops a w
def fz(P:Program)(W:World)(N:Nat)(D:List Deferred)(K:List aa)(O:Array Oper)(Q:Exit→Act→World→Prop)(ks:List Nat)(ops:List Oper)(L:List (Nat×Option Value))(H:List aa):Prop:=∀ a w,qq N L D a→Sat W w (seps H)→wpKL P O (fun w=>Sat W w (seps K)) Q ks ops a w
theorem aS.Ln{x:Operand}{f:FuncId}{us cap:Array Value}{ts:Array TypeId}{pos:String}{after:Array Edge}(hx:ev L x=some (.func (.func f) us cap))(k:fO P W N [⟨.fn (.func f) cap,us⟩] O Q rest L H):aS P W N O Q (⟨none,.defer ⟨.value x, #[],ts⟩,T,pos,after,none⟩::rest) L H:=fun a w ha hs=>wpList_plain rfl fun Kp hK=>by
 unfold Oper.wp
 have hr:(execOp a.eval ⟨none,.defer ⟨.value x, #[],ts⟩,T,pos,after,none⟩).run P w = .ok (.defer ⟨.fn (.func f) cap,us⟩) w:=by
  simp[execOp,resolve,ha.eval hx,Deferred.ofValue]
 rw[hr]
 simp only[Oper.upon]
 exact hK _ _ (k _ w ⟨ha.size,ha.get,by simp[Act.put,ha.defers]⟩ hs)
theorem tp.iB{c:Code}(k:kQ P W N D Q c L H):tp W N D (Exit.then (c.wp P Q) Q) .normal L H:=k
theorem kQ.seq{x y:Code}(k:kQ P W N D (Exit.then (y.wp P Q) Q) x L H):kQ P W N D Q (.seq x y) L H:=fun a w ha hs=>wp_seq (k a w ha hs)
theorem kQ.region{id:Nat}{l:List Oper}(k:fO P W N D l.toArray Q l L H):kQ P W N D Q (.region id l.toArray false) L H:=fun a w ha hs=>wp_region_lit (k a w ha hs)
theorem kQ.draw{id:Nat}{l:List Oper}(K:List aa)(ks:List Nat)(hm:P.follows .mixedOrders=true)(hB:rL l ks=true)(h:fz P W N D K l.toArray Q ks l L H):kQ P W N D Q (.region id l.toArray true) L H :=
 fun a _w ha hs=>qX (C:=fun w=>Sat W w (seps K)) ks hm hB (h a _ ha hs.drew)
theorem kQ.ret(k:tp W N D Q .ret L H):kQ P W N D Q .ret L H:=fun a w ha hs=>wp_ret (k a w ha hs)
theorem fO.nil(k:tp W N D Q .normal L H):fO P W N D O Q [] L H:=fun a w ha hs=>wpList_nil (k a w ha hs)
theorem fO.y{op:Op}{pos:String}{after:Array Edge}{d:Nat}{v:Value}(hN:Nat.blt d N=true)(hy:Y P W N op T L H v)(k:fO P W N D O Q rest ((d,some v)::L) H) :
  fO P W N D O Q (⟨some d,op,T,pos,after,none⟩::rest) L H:=fun a w ha hs =>
 wpList_plain rfl fun Kp hK=>by
  unfold Oper.wp
  rw[hy.d _ _ _ _ ha hs]
  exact hK _ _ (k _ w (ha.put (Nat.blt_eq.mp hN) v) hs)
theorem fO.aj{o:Oper}{k:List (Nat×Option Value)→List aa→Prop}(hg:o.guard=none)(hd:af P W N o L H k)(h:∀ L' H',k L' H'→fO P W N D O Q rest L' H'):fO P W N D O Q (o::rest) L H:=fun _a _w ha hs =>
 wpList_plain hg fun _Kp hK=>hd.d ha hs fun L' H' hk a' w' ha' hs'=>hK _ _ (h L' H' hk a' w' ha' hs')
theorem fz.nil(h:tp W N D Q .normal L H):fz P W N D K O Q ks [] L H:=fun a w ha hs=>by cases ks <;> exact h a w ha hs
theorem fz.k{op:Op}{pos:String}{after:Array Edge}{d:Nat}{v:Value}(hN:Nat.blt d N=true)(hK:∀ w,Sat W w (seps H)→Sat W w (seps K))(hy:Y P W N op T L K v)(h:fz P W N D K O Q ks rest ((d,some v)::L) H) :
  fz P W N D K O Q (0::ks) (⟨some d,op,T,pos,after,none⟩::rest) L H:=fun a w ha hs=>by
 simp only[wpKL]
 exact⟨hK w hs,v,.inl ⟨bm rfl,fun w' hs'=>hy.d _ _ _ _ ha hs'⟩,h _ w (ha.put (Nat.blt_eq.mp hN) v) hs⟩
theorem fz.s{op:Op}{pos:String}{after:Array Edge}{d:Nat}{v:Value}(hN:Nat.blt d N=true)(hy:Y P W N op T L H v)(h:fz P W N D K O Q ks rest ((d,some v)::L) H) :
  fz P W N D K O Q (1::ks) (⟨some d,op,T,pos,after,none⟩::rest) L H:=fun a w ha hs=>by
 simp only[wpKL]
 exact⟨v,.inl ⟨bm rfl,fun w' e=>by subst e;exact hy.d _ _ _ _ ha hs⟩,h _ w (ha.put (Nat.blt_eq.mp hN) v) hs⟩
theorem fz.d2{o:Oper}{k:List (Nat×Option Value)→List aa→Prop}(hg:o.guard=none)(hK:∀ w,Sat W w (seps H)→Sat W w (seps K))(hd:af P W N o L H k)(hK':∀ L' H',k L' H'→ ∀ w,Sat W w (seps H')→Sat W w (seps K))(h:∀ L' H',k L' H'→fz P W N D K O Q ks rest L' H') :
  fz P W N D K O Q (2::ks) (o::rest) L H:=fun a w ha hs=>by
 simp only[wpKL]
 refine⟨hK w hs,?_⟩
 rw[if_pos (bm hg)]
 exact hd.d ha hs fun L' H' hk a' w' ha' hs'=>⟨hK' L' H' hk w' hs',h L' H' hk a' w' ha' hs'⟩
theorem fz.d3{o:Oper}{k:List (Nat×Option Value)→List aa→Prop}(hg:o.guard=none)(hd:af P W N o L H k)(h:∀ L' H',k L' H'→fz P W N D K O Q ks rest L' H') :
  fz P W N D K O Q (3::ks) (o::rest) L H:=fun a w ha hs=>by
 simp only[wpKL]
 rw[if_pos (bm hg)]
 exact hd.d ha hs fun L' H' hk a' w' ha' hs'=>h L' H' hk a' w' ha' hs'
theorem fO.Ni{As:List aa}(t:ax H As R)(k:fO P W N D O Q rest L (As++R)):fO P W N D O Q rest L H:=fun a w ha hs=>k a w ha (t.sat hs)
theorem fO.mem{ops:List Oper}{H':List aa}(h:∀ w,Sat W w (seps H)→Sat W w (seps H'))(k:fO P W N D O Q ops L H'):fO P W N D O Q ops L H:=fun a w ha hs=>k a w ha (h w hs)
theorem fO.cK{ops:List Oper}{p:Prop}(h:∀ w,Sat W w (seps H)→p)(k:p→fO P W N D O Q ops L H):fO P W N D O Q ops L H:=fun a w ha hs=>k (h w hs) a w ha hs
theorem fO.Lo{f:FuncId}{xs:Array Operand}{ts:Array TypeId}{pos:String}{after:Array Edge}{dst:Option Nat}{args:List Value}{pre:List aa}{X:Type}{en:X→Ending}{fact:X→Prop}{post:X→List aa}(hdst:∀ d,dst=some d→Nat.blt d N=true)
  (hc:∀ args w,(callFunc f args).run P w = .ok (.enter f args) w) (hx:evs L xs.toList=some args) (hfn:Em P W f args pre X en fact post) (ht:ax H pre R) (hno:∀ x,en x≠.outgrown)
  (h1:∀ x v,en x = .returned v→fact x→fO P W N D O Q rest (match dst with | some d=>(d,some v)::L | none=>L) (post x++R)) (h2:∀ x c,en x = .panicked c→fact x→tp W N D Q (.panic c) L (post x++R)) :
  fO P W N D O Q (⟨dst,.call ⟨.value (.func f),xs,ts⟩,T,pos,after,none⟩::rest) L H:=fun a w ha hs=>wpList_plain rfl fun Kp hK=>by
 have e:xs.map a.eval=args.toArray:=by
  rw[← nN a [], ← ha.env.nr hx, ← List.map_toArray]
 have hs:=ht.sat hs
 rw[ah] at hs
 unfold Oper.wp
 have hr:(execOp a.eval ⟨dst,.call ⟨.value (.func f),xs,ts⟩,T,pos,after,none⟩).run P w = .ok (.enter f args.toArray) w:=by
  simp[execOp,resolve,Act.eval,Deferred.ofValue,invoke,e,hc]
 rw[hr]
 simp only[Oper.upon]
 refine(hfn _ w hs).mono fun en' w' ⟨x,he,hf,hs'⟩=>?_
 rw[← ah] at hs'
 subst he
 cases e2:en x with
 | returned v =>
  have h:=h1 x v e2 hf
  cases dst with
  | none=>exact hK _ _ (h _ _ ⟨ha.size,ha.get,ha.defers⟩ hs')
  | some d=>exact hK _ _ (h _ _ (ha.put (Nat.blt_eq.mp (hdst d rfl)) _) hs')
 | panicked c=>exact h2 x c e2 hf _ _ ha hs'
 | outgrown=>exact absurd e2 (hno x)
/-! a region in which a call panics: all that is read comes first -/
def CW(P:Program)(W:World)(N:Nat)(K:List aa)(O:Array Oper)(Q:Exit→Act→World→Prop)(fuel:Nat)(li:Array Bool)(L:List (Nat×Option Value))(H:List aa):Prop :=
 ∀ a w,Env N L a→Sat W w (seps H)→wpAnyH P .any O Q (fun w=>Sat W w (seps K)) fuel li a w
theorem aq.held{id:Nat}{l:List Oper}(K:List aa)(hm:P.follows .mixedOrders=true)(h:CW P W N K l.toArray Q l.toArray.size (Array.replicate l.toArray.size false) L H):aq P W N Q (.region id l.toArray true) L H:=fun a _w ha hs=>wp_region_held hm (h a _ ha hs.drew)
def MK(Q:Exit→Act→World→Prop):Prop:=∀ c d v a w,Q (.panic c) (a.put (some d) v) w→Q (.panic c) a w
theorem CW.take(i:Nat){op:Op}{pos:String}{after:Array Edge}{d fuel:Nat}{li:Array Bool}{v:Value}(hi:O[i]?=some ⟨some d,op,T,pos,after,none⟩)(hs:Region.noSelect O=true)(hf:Region.free .any O li i=true)(hr:(Region.ready .any O li).contains i=true)(hQ:MK Q)(hN:Nat.blt d N=true)
  (hK:∀ w,Sat W w (seps H)→Sat W w (seps K)) (hy:Y P W N op T L K v) (h:CW P W N K O Q fuel (li.setIfInBounds i true) ((d,some v)::L) H):CW P W N K O Q (fuel+1) li L H:=fun a w ha hs' =>
 wpAnyH_take hi hs hf hr (fun c a w=>hQ c d v a w) (.inl ⟨bm rfl,fun w' hw'=>hy _ _ _ _ a w' ha hw'⟩) (hK w hs') (h _ w (ha.put (Nat.blt_eq.mp hN) v) hs')
theorem CW.ML(i:Nat){f:FuncId}{xs:Array Operand}{ts:Array TypeId}{pos:String}{after:Array Edge}{d fuel:Nat}{li:Array Bool}{args:List Value}{pre:List aa}{X:Type}{en:X→Ending}{fact:X→Prop}{post:X→List aa}(hi:O[i]?=some ⟨some d,.call ⟨.value (.func f),xs,ts⟩,T,pos,after,none⟩)(hr:Region.ready .any O li=[i])
  (hc:∀ args w,(callFunc f args).run P w = .ok (.enter f args) w) (hx:evs L xs.toList=some args) (hfn:Em P W f args pre X en fact post) (ht:ax H pre R) (hp:∀ x, ∃ c,en x = .panicked c)
  (h2:∀ x c,en x = .panicked c→fact x→bx W N Q (.panic c) L (post x++R)):CW P W N K O Q (fuel+1) li L H:=fun a w ha hs=>by
 refine wpAnyH_all hr (by simp) fun j hj=>?_
 obtain rfl:j=i:=by simpa using hj
 have e:xs.map a.eval=args.toArray:=by
  rw[← ha.nr hx, ← List.map_toArray]
 have hs:=ht.sat hs
 rw[ah] at hs
 unfold wpOp
 rw[hi]
 simp only
 rw[if_pos (bm rfl)]
 left
 unfold Oper.wp
 have hr:(execOp a.eval ⟨some d,.call ⟨.value (.func f),xs,ts⟩,T,pos,after,none⟩).run P w = .ok (.enter f args.toArray) w:=by
  simp[execOp,resolve,Act.eval,Deferred.ofValue,invoke,e,hc]
 rw[hr]
 simp only[Oper.upon]
 refine(hfn _ w hs).mono fun en' w' ⟨x,he,hf,hs'⟩=>?_
 rw[← ah] at hs'
 subst he
 obtain⟨c,e2⟩:=hp x
 rw[e2]
 exact h2 x c e2 hf _ _ ha hs'
/-! what the model stands in for -/
theorem Y.ext {f : FuncId} {fn : Func} {e : Array Value → Sem Value} {xs : Array Operand} {ts : Array TypeId} {args : List Value} {v : Value} (hf : P.funcs[f]? = some fn) (hname : (fn.name == "runtime.NumGoroutine") = false) (hb : fn.body.isNone = true) (hn : Extern.findNext fn = none) (he : Extern.find fn = some e)
  (hx:evs L xs.toList=some args) (h:∀ w,(e args.toArray).run P w = .ok v w):Y P W N (.call ⟨.value (.func f),xs,ts⟩) T L H v:=fun dst pos after guard a w ha hs=>by
 have e2:xs.map a.eval=args.toArray:=by
  rw[← ha.nr hx, ← List.map_toArray]
 simp[execOp,resolve,Act.eval,Deferred.ofValue,invoke,e2,run_callFunc_extern hf hname hb hn he,h]
/-! numbers with a point -/
def kk(m n:Nat):Option Ordering:=Ieee.double.order m n
theorem Y.MM{xT yT:TypeId}{x y:Operand}{m n:Nat}(hx:ev L x=some (.float .f64 m))(hy:ev L y=some (.float .f64 n)):Y P W N (.binOp .lss xT x y yT) T L H (.bool (kk m n == some .lt)):=Y.bin hx hy fun _w=>rfl
theorem Y.Ny{xT yT:TypeId}{x y:Operand}{m n:Nat}(hx:ev L x=some (.float .f64 m))(hy:ev L y=some (.float .f64 n)):Y P W N (.binOp .geq xT x y yT) T L H (.bool (kk m n == some .gt || kk m n == some .eq)):=Y.bin hx hy fun _w=>rfl
theorem Y.Nz{xT yT:TypeId}{x y:Operand}{m n:Nat}(hx:ev L x=some (.float .f64 m))(hy:ev L y=some (.float .f64 n))(hg:∀ w,(eqGuard .neq xT x y (.float .f64 m) (.float .f64 n)).run P w = .ok () w):Y P W N (.binOp .neq xT x y yT) T L H (.bool (kk m n != some .eq)):=Y.bin hx hy fun w=>by
 rw[Sem.run_bind,hg];rfl
def MN(o:Option Nat)(r:Nat):Prop:=match o with | some q=>r=q | none=>(kk r r == some .eq)=false
theorem Jw(t:Nat):(kk ((t % 2) * 2 ^ 63+0x7ff0000000000000+1+(t / 2) % (2 ^ 52-1)) ((t % 2) * 2 ^ 63+0x7ff0000000000000+1+(t / 2) % (2 ^ 52-1)) == some .eq)=false:=by
 have h1:t % 2<2:=Nat.mod_lt _ (by decide)
 have h2:(t / 2) % (2 ^ 52-1)<2 ^ 52-1:=Nat.mod_lt _ (by decide)
 generalize t % 2=s at *
 generalize (t / 2) % (2 ^ 52-1)=q at *
 have hr:(s * 2 ^ 63+0x7ff0000000000000+1+q) % Ieee.double.signWeight=0x7ff0000000000001+q:=by
  have:Ieee.double.signWeight=2 ^ 63:=by decide
  rw[this];omega
 have hread:∃ b f,Ieee.double.read (s * 2 ^ 63+0x7ff0000000000000+1+q) = .nan b f:=by
  unfold Ieee.Format.read
  simp only[hr]
  have e1:Ieee.double.binade=4503599627370496:=by decide
  have e2:Ieee.double.infRung=9218868437227405312:=by decide
  rw[e1,e2,if_neg (by omega),if_neg (by omega),if_neg (by omega)]
  exact⟨_,_,rfl⟩
 obtain⟨b,f,e⟩:=hread
 unfold kk Ieee.Format.order
 rw[e]
 rfl
theorem af.Jx{op:BinOp}{xT yT:TypeId}{x y:Operand}{pos:String}{after:Array Edge}{guard:Option (Nat×Bool)}{d m n:Nat}(o:Option Nat)(hN:Nat.blt d N=true)(hx:ev L x=some (.float .f64 m))(hy:ev L y=some (.float .f64 n))
  (h:∀ w,(do eqGuard op xT x y (.float .f64 m) (.float .f64 n);binOp op xT (.float .f64 m) (.float .f64 n):Sem Value).run P w=(match o with | some r=>pure (.float .f64 r) | none=>do pure (.float .f64 (← choose (.nanBits .f64 m n))):Sem Value).run P w) :
  af P W N ⟨some d,.binOp op xT x y yT,T,pos,after,guard⟩ L H (fun L1 H1=>∃ r,MN o r∧L1=(d,some (.float .f64 r))::L∧H1=H):=fun a w ha hs Kp hK=>by
 have hrun:∀ v w',(match o with | some r=>pure (.float .f64 r) | none=>do pure (.float .f64 (← choose (.nanBits .f64 m n))):Sem Value).run P w = .ok v w'→(execOp a.eval ⟨some d,.binOp op xT x y yT,T,pos,after,guard⟩).run P w = .ok (.value v) w':=fun v w' hv=>by
  simp only[execOp,ha.eval hx,ha.eval hy]
  have h2:=(h w).trans hv
  show((do eqGuard op xT x y (.float .f64 m) (.float .f64 n);binOp op xT (.float .f64 m) (.float .f64 n):Sem Value) >>= fun v=>pure (Next.value v)).run P w=_
  rw[Sem.run_bind,h2]
  rfl
 unfold Oper.wp
 cases o with
 | some r =>
  rw[hrun (.float .f64 r) w rfl]
  simp only[Oper.upon]
  exact hK _ _ ⟨r,rfl,rfl,rfl⟩ _ _ (ha.put (Nat.blt_eq.mp hN) _) hs
 | none =>
  have hq:(choose (.nanBits .f64 m n)).run P w = .ok ((Question.nanBits .f64 m n).cut (w.tape w.drawn (.nanBits .f64 m n))) w.drew:=by
   rw[run_choose_drew];simp[Question.forced]
  rw[hrun (.float .f64 ((Question.nanBits .f64 m n).cut (w.tape w.drawn (.nanBits .f64 m n)))) w.drew (by simp only[Sem.run_bind,hq,Result.andThen_ok,Sem.run_pure])]
  simp only[Oper.upon]
  refine hK _ _ ⟨_,?_,rfl,rfl⟩ _ _ (ha.put (Nat.blt_eq.mp hN) _) hs.drew
  show(kk _ _ == some .eq)=false
  simp only[Question.cut]
  exact Jw _
theorem Y.toFloat{src dst':TypeId}{x:Operand}{j:IntKind}{n:Int}(h:∀ w,(convert src dst' (.int j n)).run P w = .ok (.float .f64 (FloatKind.f64.nearest n)) w)(hx:ev L x=some (.int j n)):Y P W N (.convert src dst' x) T L H (.float .f64 (FloatKind.f64.nearest n)):=fun dst pos after guard a w ha hs=>by
 simp only[execOp,ha.eval hx]
 exact bN (h w)
theorem Y.Lp{src dst':TypeId}{x:Operand}{j:IntKind}{n:Nat}{k:Int}(h:∀ w,(convert src dst' (.float .f64 n)).run P w = .ok (.int j k) w)(hx:ev L x=some (.float .f64 n)):Y P W N (.convert src dst' x) T L H (.int j k):=fun dst pos after guard a w ha hs=>by
 simp only[execOp,ha.eval hx]
 exact bN (h w)
end
end Go.SLYthlllpngkljgfaaGreat
namespace Go.SLYthlllpngkljgfaaGreat
open Go Go.RowKit
theorem zu(n:Nat):tf (n:Int)=(kk n n != some .eq):=by
 unfold tf Oh kk bne
 rw[Int.toNat_natCast]
theorem qt(n:Nat):jt (n:Int)=if (kk n n != some .eq)=true then nv else (n:Int):=by unfold jt;rw[zu]
theorem rV{o:Option Nat}{r:Nat}(h:MN o r):jt (r:Int)=El o:=by
 cases o with
 | some q=>rw[show r=q from h];rfl
 | none =>
  have h:(kk r r == some .eq)=false:=h
  rw[qt]
  unfold bne
  rw[h];rfl
theorem gB{a:Int}(h:0≤a):(kk a.toNat a.toNat != some .eq)=tf a:=by
 rw[← zu,Int.toNat_of_nonneg h]
/-! from a number to a whole one -/
theorem GL:Ieee.double.read xE = .number false 4503599627370496 11:=by decide +kernel
theorem En:Ieee.double.read zr = .number true 4503599627370496 11:=by decide +kernel
open Ieee in
theorem GM(s:Bool)(n drop:Nat):Toward.zero.cut s n drop=n / 2 ^ min drop (n.log2+2):=by
 unfold Toward.cut
 simp[Nat.one_shiftLeft]
theorem Lq{n drop b:Nat}(h:n≤b * 2 ^ drop):n / 2 ^ min drop (n.log2+2)≤b:=by
 rcases Nat.le_total drop (n.log2+2) with hd | hd
 ·rw[Nat.min_eq_left hd]
  exact Nat.div_le_of_le_mul (by rw[Nat.mul_comm];exact h)
 ·rw[Nat.min_eq_right hd]
  have:n<2 ^ (n.log2+2):=Nat.lt_of_lt_of_le Nat.lt_log2_self (Nat.pow_le_pow_right (by decide) (by omega))
  rw[Nat.div_eq_of_lt this]
  exact Nat.zero_le _
theorem Lr{n drop b:Nat}(hb:0<b)(h:n<b * 2 ^ drop):n / 2 ^ min drop (n.log2+2)<b:=by
 rcases Nat.le_total drop (n.log2+2) with hd | hd
 ·rw[Nat.min_eq_left hd]
  exact Nat.div_lt_of_lt_mul (by rw[Nat.mul_comm];exact h)
 ·rw[Nat.min_eq_right hd]
  have:n<2 ^ (n.log2+2):=Nat.lt_of_lt_of_le Nat.lt_log2_self (Nat.pow_le_pow_right (by decide) (by omega))
  rw[Nat.div_eq_of_lt this]
  exact hb
open Ieee in
theorem Jy(m:Nat)(i:Int):let base:=min i 11
  (m <<< (i-base).toNat<4503599627370496 <<< (11-base).toNat→m <<< i.toNat<9223372036854775808 * 2 ^ (-i).toNat)∧(m <<< (i-base).toNat≤4503599627370496 <<< (11-base).toNat→m <<< i.toNat≤9223372036854775808 * 2 ^ (-i).toNat):=by
 intro base
 simp only[Nat.shiftLeft_eq]
 have key:∃ c:Nat,0<c∧(m * 2 ^ i.toNat)=(m * 2 ^ (i-base).toNat) * c∧9223372036854775808 * 2 ^ (-i).toNat=4503599627370496 * 2 ^ (11-base).toNat * c:=by
  rcases(show i<0∨0≤i by omega) with hi | hi
  ·refine⟨1,by decide,?_,?_⟩
   ·rw[show base=i from by show min i 11=i;omega,show i.toNat=0 from by omega,show(i-i).toNat=0 from by omega];simp
   ·rw[show base=i from by show min i 11=i;omega,show(11-i).toNat=11+(-i).toNat from by omega,Nat.pow_add,Nat.mul_one, ← Nat.mul_assoc]
  ·refine⟨2 ^ base.toNat,Nat.pow_pos (by decide),?_,?_⟩
   ·rw[Nat.mul_assoc, ← Nat.pow_add,show(i-base).toNat+base.toNat=i.toNat from by show(i-min i 11).toNat+(min i 11).toNat=_;omega]
   ·rw[Nat.mul_assoc, ← Nat.pow_add,show(11-base).toNat+base.toNat=11 from by show(11-min i 11).toNat+(min i 11).toNat=_;omega,show(-i).toNat=0 from by omega]
 obtain⟨c,hc,e1,e2⟩:=key
 rw[e1,e2]
 exact⟨fun h=>Nat.mul_lt_mul_of_pos_right h hc,fun h=>Nat.mul_le_mul_right c h⟩
theorem Lt(x y:Int):compare x y=if x<y then .lt else if x=y then .eq else .gt:=rfl
theorem Lu{x y:Int}(h:y<x):compare x y = .gt:=by rw[Lt,if_neg (by omega),if_neg (by omega)]
theorem Lv{x y:Int}(h:x<y):compare x y = .lt:=by rw[Lt,if_pos h]
theorem Lw(x:Int):compare x x = .eq:=by rw[Lt,if_neg (by omega),if_pos rfl]
theorem zv(m k:Nat):Ieee.signed false m k=((m <<< k:Nat):Int):=rfl
theorem GN(m k:Nat):Ieee.signed true m k = -((m <<< k:Nat):Int):=rfl
open Ieee in
theorem Eo{n:Nat}(h1:(kk n n != some .eq)=false)(h2:(kk n xE == some .gt || kk n xE == some .eq)=false)(h3:(kk n zr == some .lt)=false) :
  ∃ k,(FloatKind.f64.decode n).toInt .zero=some k∧IntKind.i64.min≤k∧k≤IntKind.i64.max:=by
 show ∃ k,(double.read n).toInt .zero=some k∧_
 unfold kk Format.order at h1 h2 h3
 rw[GL] at h2
 rw[En] at h3
 have hmin:IntKind.i64.min = -9223372036854775808:=by decide
 have hmax:IntKind.i64.max=9223372036854775807:=by decide
 rw[hmin,hmax]
 cases hd:double.read n with
 | nan b f=>rw[hd] at h1;simp[Datum.order] at h1
 | infinity s =>
  rw[hd] at h2 h3
  cases s <;> simp[Datum.order] at h2 h3
 | number s m i =>
  rw[hd] at h2 h3
  simp only[Datum.order,Bool.or_eq_false_iff] at h2 h3
  refine⟨signed s (Toward.zero.cut s (m <<< i.toNat) (-i).toNat) 0,rfl,?_⟩
  rw[GM]
  obtain⟨c1,c2⟩:=Jy m i
  cases s with
  | false =>
   have hlt:m <<< (i-min i 11).toNat<4503599627370496 <<< (11-min i 11).toNat:=by
    rcases Nat.lt_trichotomy (m <<< (i - min i 11).toNat) (4503599627370496 <<< (11 - min i 11).toNat) with h | h | h
    ·exact h
    ·exfalso
     rw[zv,zv,h,Lw] at h2;simp at h2
    ·exfalso
     rw[zv,zv,Lu (by omega)] at h2;simp at h2
   have:=Lr (by decide) (c1 hlt)
   generalize (m <<< i.toNat) / 2 ^ min (-i).toNat ((m <<< i.toNat).log2+2)=q at *
   rw[zv,Nat.shiftLeft_zero]
   omega
  | true =>
   have hle:m <<< (i-min i 11).toNat≤4503599627370496 <<< (11-min i 11).toNat:=by
    rcases Nat.lt_or_ge (4503599627370496 <<< (11 - min i 11).toNat) (m <<< (i - min i 11).toNat) with h | h
    ·exfalso
     rw[GN,GN,Lv (by omega)] at h3;simp at h3
    ·exact h
   have:=Lq (c2 hle)
   generalize (m <<< i.toNat) / 2 ^ min (-i).toNat ((m <<< i.toNat).log2+2)=q at *
   rw[GN,Nat.shiftLeft_zero]
   omega
theorem Ep{P:Program}{n:Nat}{w:World}{k:Int}(h:(FloatKind.f64.decode n).toInt .zero=some k)(h1:IntKind.i64.min≤k)(h2:k≤IntKind.i64.max):(Conv.floatToInt .f64 n .i64).run P w = .ok (.int .i64 k) w:=by
 unfold Conv.floatToInt
 rw[h]
 simp only
 rw[if_pos ⟨h1,h2⟩]
 rfl
theorem GO(k:Int):IntKind.u64.wrap k=A9 k:=by
 unfold A9
 rfl
end Go.SLYthlllpngkljgfaaGreat
namespace Go.SLYthlllpngkljgfaaGreat
open Go Go.RowKit
def iM(f:iP):List Value:=[.int .i64 f.fn,.int .i64 f.pc,.int .u64 (f.aI.getD 0 0),.int .u64 (f.aI.getD 1 0),.int .u64 (f.aI.getD 2 0),.int .u64 (f.aI.getD 3 0),.int .u64 (f.aI.getD 4 0),.int .u64 (f.aI.getD 5 0),.int .u64 (f.aI.getD 6 0),.int .u64 (f.aI.getD 7 0)]
def vK(f:iP)(v:Value):List Value:=[.int .i64 f.fn,.int .i64 f.pc,.int .u64 (f.aI.getD 0 0),.int .u64 (f.aI.getD 1 0),.int .u64 (f.aI.getD 2 0),.int .u64 (f.aI.getD 3 0),.int .u64 (f.aI.getD 4 0),.int .u64 (f.aI.getD 5 0),.int .u64 (f.aI.getD 6 0),.int .u64 (f.aI.getD 7 0),v]
def KK(o:Option Ins):Value:=.tuple #[.agg (dH (o.getD Ins.z)).toArray,.bool o.isSome]
theorem Jz{p:fM}{f:iP}{fs:List (Value×List Ins)}{z:Value×List Ins}(hp:fs.map (·.2)=p.funcs)
  (h:(decide (f.fn<0) || decide ((fs.length:Int)≤f.fn) || decide (f.pc<0) || decide (((fs.getD f.fn.toNat z).2.length:Int)≤f.pc))=true) (_hz:z.2=[]):dT p f=none:=by
 unfold dT
 split
 ·rfl
 ·rename_i hn
  rw[← hp,List.getElem?_eq_none]
  simp only[Bool.or_eq_true,decide_eq_true_eq] at h
  rw[List.getD_eq_getElem?_getD,List.getElem?_map]
  rw[List.getD_eq_getElem?_getD] at h
  cases e:fs[f.fn.toNat]? with
  | none=>exact Nat.zero_le _
  | some x =>
   rw[e] at h
   have:=(List.getElem?_eq_some_iff.1 e).1
   simp only[Option.getD_some,Option.map_some] at h ⊢
   omega
theorem GP{p:fM}{f:iP}{fs:List (Value×List Ins)}{x:Value×List Ins}{i:Ins}(hp:fs.map (·.2)=p.funcs)(h1:¬f.fn<0)(h2:¬f.pc<0)(hx:fs[f.fn.toNat]?=some x)(hi:x.2[f.pc.toNat]?=some i):dT p f=some i:=by
 unfold dT
 rw[if_neg (by omega), ← hp,List.getD_eq_getElem?_getD,List.getElem?_map,hx]
 exact hi
theorem l7{f:iP}{v:Value}:∀ {n:Nat} (_:n<8),(vK f v)[2+n]?=some (.int .u64 (f.aI.getD n 0))
 | 0,_=>rfl
 | 1,_=>rfl
 | 2,_=>rfl
 | 3,_=>rfl
 | 4,_=>rfl
 | 5,_=>rfl
 | 6,_=>rfl
 | 7,_=>rfl
 | n+8,h=>absurd h (by omega)
theorem JA{fn pc:Int}{a0 a1 a2 a3 a4 a5 a6 a7:Int}{v:Value}(x:Int):∀ {n:Nat} (_:n<8),(vK ⟨fn,pc,[a0,a1,a2,a3,a4,a5,a6,a7]⟩ v).set (2+n) (.int .u64 x)=vK ⟨fn,pc,[a0,a1,a2,a3,a4,a5,a6,a7].set n x⟩ v
 | 0,_=>rfl
 | 1,_=>rfl
 | 2,_=>rfl
 | 3,_=>rfl
 | 4,_=>rfl
 | 5,_=>rfl
 | 6,_=>rfl
 | 7,_=>rfl
 | n+8,h=>absurd h (by omega)
theorem Bn{f:iP}{v:Value}{n:Nat}(x:Int)(hn:n<8)(hl:f.aI.length=8):(vK f v).set (2+n) (.int .u64 x)=vK {f with aI:=f.aI.set n x } v:=by
 obtain⟨fn,pc,aI⟩:=f
 match aI,hl with
 | [a0,a1,a2,a3,a4,a5,a6,a7],_=>exact JA x hn
def vL(t:Nat)(e:Int):List PanicEntry:=[{v:=.iface t (.agg #[.int .i64 e]),recovered:=false }]
structure nw(i:Ins):Prop where
 a:0≤i.a∧i.a<8
 b:0≤i.b∧i.b<8
 c:0≤i.c∧i.c<8
 n:0≤i.n∧i.n≤18446744073709551615
 j:i.op=16∨i.op=17→i.n≤256
structure CX(f:iP):Prop where
 l:f.aI.length=8
 pc:0≤f.pc∧f.pc≤1000000
 r:∀ n,0≤f.aI.getD n 0∧f.aI.getD n 0≤18446744073709551615
def doEnd(t:Nat)(o:Option (iP×List Int)):Ending:=match o with | some _=>.returned (.tuple #[]) | none=>.panicked (vL t 6)
def NA(b:Nat)(v:Value)(o:Option (iP×List Int)):List aa:=match o with | some z=>[arr b 0 (vK z.1 v),sl cO 1 v z.2] | none=>[]
def fX(f:iP)(m:List Int)(i:Ins):iP×List Int×Int:=match lN f m i with | some (f',m')=>(f',m',0) | none=>(iP.z,[],6)
section
variable{P:Program}{W:World}{N:Nat}{Q:Exit→Act→World→Prop}{L:List (Nat×Option Value)}{H K R:List aa}{O:Array Oper}{T:TypeId}{rest:List Oper}{D:List Deferred}{ks:List Nat}
theorem Y.JB{x:Operand}{v r:Value}{t u:TypeId}{c:Bool}(hx:ev L x=some v)(h:∀ w,(Instr.typeAssert v t u c).run P w = .ok r w):Y P W N (.typeAssert x t u c) T L H r:=fun dst pos after guard a w ha hs=>by
 simp only[execOp,ha.eval hx]
 exact bN (h w)
theorem Em.ok{f:FuncId}{args:List Value}{pre:List aa}{X:Type}{en:X→Ending}{fact:X→Prop}{post:X→List aa}(val:X→Value)(h:Em P W f args pre X en fact post)(he:∀ x,en x = .returned (val x)):Fn P W f args pre X val fact post:=fun F w hs =>
 (h F w hs).mono fun _ _ ⟨x,e1,e2,e3⟩=>⟨x,e1.trans (he x),e2,e3⟩
theorem Fn.Ly{f:FuncId}{fn:Func}{c:Code}{args:List Value}{pre:List aa}{X:Type}{val:X→Value}{fact:X→Prop}{post:X→List aa}(hf:P.funcs[f]?=some fn)(hb:fn.body=some c)(hn:fn.ntmps=N)(ha:Nat.ble args.length N=true)
  (h:∀ F,aq P W N (bodyPostD P fn (fun e w'=>∃ x,e = .returned (val x)∧fact x∧Sat W w' (sep (seps (post x)) F))) c (enum 0 args) (pre++[F])):Fn P W f args pre X val fact post:=fun F w hs=>by
 have hle:args.length≤N:=Nat.ble_eq.mp ha
 refine calls_of_wp_defers hf hb (h F _ w ⟨?_,fun k v hv=>?_,rfl⟩ ?_)
 ·simp[hn];omega
 ·obtain⟨_,h2⟩:=j4 args 0 k v hv
  have hk:k<args.length:=by
   have:=(List.getElem?_eq_some_iff.1 h2).1;simpa using this
  show(args.toArray++Array.replicate (fn.ntmps-args.toArray.size) undef)[k]?=some v
  rw[Array.getElem?_append_left (by simpa using hk)]
  simpa using h2
 ·rw[ah];simp only[seps];rw[aJ];exact hs
theorem af.JC{α:Type}{enc:α→List Value}{k b n c':Nat}{x y:Operand}{t t2 e ty:TypeId}{u:Value}{xs ys:List α}{pos:String}{after:Array Edge}{guard:Option (Nat×Bool)}{d:Nat}(hN:Nat.blt d N=true)(hu:P.underlying t=some (.slice e))(hz:∀ w,(sizeOf e).run P w = .ok k w)
  (hx:ev L x=some (.slice (some ⟨b,0,none⟩) n c')) (hy:ev L y=some u) (hr:Rd W H enc k u ys) (ht:Take H (sl enc k (.slice (some ⟨b,0,none⟩) n c') xs) R) (hl:xs.length=n) (hl2:ys.length=n) (hone:∀ y∈ys, ∀ c∈enc y,c.oneCell'=true) :
  af P W N ⟨some d,.call ⟨.builtin .copy, #[x,y], #[t,t2]⟩,ty,pos,after,guard⟩ L H (fun L1 H1=>L1=(d,some (.int .i64 (n:Int)))::L∧H1=sl enc k (.slice (some ⟨b,0,none⟩) n c') ys::R):=by
 rcases Nat.eq_zero_or_pos n with h0 | h0
 ·subst h0
  obtain rfl:=List.eq_nil_of_length_eq_zero hl
  obtain rfl:=List.eq_nil_of_length_eq_zero hl2
  intro a w ha hs Kp hK
  have hrd:=hr w hs
  have hf:=hrd.Gg (P:=P) (m:=0) (Nat.zero_le _)
  obtain⟨⟨ua,ucap,hue,_⟩,_⟩:=hrd
  have hln:(Builtin.lenOf u).run P w = .ok 0 w:=by rw[hue];simp[Builtin.lenOf]
  have hrun:(execOp a.eval ⟨some d,.call ⟨.builtin .copy, #[x,y], #[t,t2]⟩,ty,pos,after,guard⟩).run P w = .ok (.value (.int .i64 ((0:Nat):Int))) w:=by
   simp[execOp,resolve,invoke,builtin,ha.eval hx,ha.eval hy,Builtin.copy_,run_underlying hu,hz,hln,goInt,hf,rows,storeCells]
  unfold Oper.wp
  rw[hrun]
  simp only[Oper.upon]
  rw[ht.seps] at hs
  exact hK _ _ ⟨rfl,rfl⟩ _ _ (ha.put (Nat.blt_eq.mp hN) _) hs
 ·have:=af.Bd (P:=P) (W:=W) (N:=N) (L:=L) (H:=H) (R:=R) (ty:=ty) (pos:=pos) (after:=after) (guard:=guard) (t2:=t2) (d:=d) (x:=x) (y:=y) (t:=t) (i:=0) (b:=b) (len:=n) (cap:=c') (c':=c') (xs:=xs) (ys:=ys) hN hu hz (by simpa using hx) hy hr ht hl (Nat.zero_le _) h0 hone
  have e:min ys.length (n-0)=n:=by omega
  rw[e,List.take_zero,List.nil_append,Nat.zero_add,List.take_of_length_le (by omega),List.drop_of_length_le (by omega),List.append_nil] at this
  exact this
end
end Go.SLYthlllpngkljgfaaGreat
namespace Go.SLYthlllpngkljgfaaGreat
open Go Go.RowKit
def QC(R:Ending→FrameMode→World→Prop)(u:FrameMode):Exit→Act→World→Prop
 | .normal,a,w | .ret,a,w=>a.defers=[]∧R (.returned (.tuple #[])) u w
 | _,_,_=>False
section
variable{P:Program}{W:World}{N:Nat}{Q:Exit→Act→World→Prop}{L:List (Nat×Option Value)}{H K R:List aa}{O:Array Oper}{T:TypeId}{D:List Deferred}
theorem Er{args:List Value}(ha:Nat.ble args.length N=true):Env N (enum 0 args) {tmps:=args.toArray++Array.replicate (N-args.toArray.size) undef,defers:=[] }:=by
 have hle:args.length≤N:=Nat.ble_eq.mp ha
 refine⟨by simp;omega,fun k v hv=>?_,rfl⟩
 obtain⟨_,h2⟩:=j4 args 0 k v hv
 have hk:k<args.length:=by
  have:=(List.getElem?_eq_some_iff.1 h2).1;simpa using this
 show(args.toArray++Array.replicate (N-args.toArray.size) undef)[k]?=some v
 rw[Array.getElem?_append_left (by simpa using hk)]
 simpa using h2
theorem l8{f:FuncId}{fn:Func}{rest:Code}{id d:Nat}{pos:String}{after:Array Edge}{args:List Value}{Rc:Ending→FrameMode→World→Prop}{u u2:FrameMode}{v:Value}{w:World}(hf:P.funcs[f]?=some fn)
  (hb:fn.body=some (.seq (.region id #[⟨some d,.call ⟨.builtin .recover, #[], #[]⟩,T,pos,after,none⟩] false) rest)) (hn:fn.ntmps=N) (ha:Nat.ble args.length N=true) (hd:Nat.blt d N=true) (hr:fn.results = #[])
  (hu:∀ (c:Frame) (cs:List Frame),c.mode=u→(recoverD (c::cs)=some (v,{c with mode:=u2 }::cs))∨(recoverD (c::cs)=none∧v = .nilIface∧u2=u))
  (hs:Sat W w (seps H)) (h:aq P W N (QC Rc u2) rest ((d,some v)::enum 0 args) H):CallsD P f args.toArray u w Rc:=by
 refine callsD_of_wpS hf hb fun c cs hc=>wpS_seq (wpS_region ?_)
 have henv:Env N ((d,some v)::enum 0 args) (({tmps:=args.toArray++Array.replicate (fn.ntmps-args.toArray.size) undef,defers:=[] }:Act).put (some d) v):=by
  rw[hn];exact(Er ha).put (Nat.blt_eq.mp hd) v
 have hw:=h _ w henv hs
 have hfin:rest.wpS P (bodyPostS P fn c cs Rc) (({tmps:=args.toArray++Array.replicate (fn.ntmps-args.toArray.size) undef,defers:=[] }:Act).put (some d) v) ({c with mode:=u2 }::cs) w:=by
  refine wpS_of_wp (wp_mono hw fun e a' w' hq=>?_)
  cases e with
  | normal=>exact⟨hq.1,u2,rfl,_,results_none hr _ _ _,hq.2⟩
  | ret=>exact⟨hq.1,u2,rfl,_,results_none hr _ _ _,hq.2⟩
  | exit id=>exact hq.elim
  | goto l=>exact hq.elim
  | panic c=>exact hq.elim
  | outgrown=>exact hq.elim
 have hlist:List.range (#[(⟨some d,.call ⟨.builtin .recover, #[], #[]⟩,T,pos,after,none⟩:Oper)]).size=[0]:=rfl
 rw[hlist]
 simp only[wpOpsS,List.getElem?_toArray,List.getElem?_cons_zero]
 rw[if_pos (bm rfl)]
 have hx:(execOp ({tmps:=args.toArray++Array.replicate (fn.ntmps-args.toArray.size) undef,defers:=[] }:Act).eval ⟨some d,.call ⟨.builtin .recover, #[], #[]⟩,T,pos,after,none⟩).run P w = .ok .recover w:=by
  simp[execOp,resolve,invoke,builtin]
 rw[hx]
 simp only
 rcases hu c cs hc with e | ⟨e,rfl,rfl⟩
 ·rw[e];exact hfin
 ·rw[e]
  have:({c with mode:=u2 }:Frame)=c:=by subst hc;rfl
  rw[this] at hfin
  exact hfin
theorem xL{xT:TypeId}{ms:Array (String×TypeId)}(hu:P.underlying xT=some (.interface ms))(w:World):(Op.equal xT .nilIface .nilIface).run P w = .ok true w:=by
 show(Op.equalIn (9999+1) xT _ _).run P w=_
 unfold Op.equalIn
 simp[run_underlying hu]
theorem uU{xT:TypeId}{ms:Array (String×TypeId)}{t:TypeId}{u:Value}(hu:P.underlying xT=some (.interface ms))(w:World):(Op.equal xT (.iface t u) .nilIface).run P w = .ok false w:=by
 show(Op.equalIn (9999+1) xT _ _).run P w=_
 unfold Op.equalIn
 simp[run_underlying hu]
theorem Y.MO{xT yT:TypeId}{x:Operand}{ms:Array (String×TypeId)}(hu:P.underlying xT=some (.interface ms))(hx:ev L x=some .nilIface):Y P W N (.binOp .eql xT x (.const .nilIface) yT) T L H (.bool true) :=
 Y.bin hx rfl fun w=>by simp[eqGuard,binOp,xL hu]
theorem Y.MP{xT yT:TypeId}{x:Operand}{t:TypeId}{u:Value}{ms:Array (String×TypeId)}(hu:P.underlying xT=some (.interface ms))(hx:ev L x=some (.iface t u)):Y P W N (.binOp .eql xT x (.const .nilIface) yT) T L H (.bool false) :=
 Y.bin hx rfl fun w=>by simp[eqGuard,binOp,uU hu]
theorem bx.MQ{Rc:Ending→FrameMode→World→Prop}{u:FrameMode}(h:∀ w,Sat W w (seps H)→Rc (.returned (.tuple #[])) u w):bx W N (QC Rc u) .normal L H:=fun _a w ha hs=>⟨ha.defers,h w hs⟩
theorem vM{fn:Func}{a:Act}{w:World}{t1 t2 t3 T1 T2 T3 b1 b2 b3:Nat}{cs:List Value}{v2 v3:Value}(ha:qq N L D a)(hs:Sat W w (seps H))(hr:fn.results = #[.cell t1 T1,.cell t2 T2,.cell t3 T3])(h1:look L t1=some (ptr b1))(h2:look L t2=some (ptr b2))(h3:look L t3=some (ptr b3))
  (g1:∀ w,(isAgg T1).run P w = .ok true w) (z1:∀ w,(sizeOf T1).run P w = .ok cs.length w) (g2:∀ w,(isAgg T2).run P w = .ok false w) (g3:∀ w,(isAgg T3).run P w = .ok false w) (c1:Cells W H b1 0 cs) (c2:Cell W H b2 0 v2) (c3:Cell W H b3 0 v3) :
  (results fn a.tmps).run P w = .ok (.tuple #[.agg cs.toArray,v2,v3]) w:=by
 have hl:=gx (P:=P) (w:=w) g1 z1 fun i v hv=>c1 i v hv w hs
 have hl2:(loadVar T2 ⟨b2,0,none⟩).run P w = .ok v2 w:=by simp[loadVar,g2,c2 w hs]
 have hl3:(loadVar T3 ⟨b3,0,none⟩).run P w = .ok v3 w:=by simp[loadVar,g3,c3 w hs]
 simp[results,hr,ha.get _ _ h1,ha.get _ _ h2,ha.get _ _ h3,ptr,asAddr,hl,hl2,hl3]
end
end Go.SLYthlllpngkljgfaaGreat
namespace Go.SLYthlllpngkljgfaaGreat
open Go Go.RowKit
def rH(v:Value)(l:List eI)(i:Nat):aa:=q7 (eb (blk v) (eg v+i * 3)) (fun m'=>dY v (l.set i m'))
def zw(v:Value)(l:List kz)(i:Nat):aa:=q7 (hD (blk v) (eg v+i * 2)) (fun m'=>fw v (l.set i m'))
def Es(v:Value)(l:List (List eS))(i:Nat):aa:=q7 (iL (blk v) (eg v+i * 1)) (fun m'=>iu v (l.set i m'))
theorem oQ{v:Value}{l:List eI}{i:Nat}{m:eI}(hm:l[i]?=some m):∀ h,dY v l h→seps [eb (blk v) (eg v+i * 3) m,rH v l i] h:=GG hm
theorem CY{v:Value}{l:List kz}{i:Nat}{m:kz}(hm:l[i]?=some m):∀ h,fw v l h→seps [hD (blk v) (eg v+i * 2) m,zw v l i] h:=GH hm
theorem CZ{v:Value}{l:List (List eS)}{i:Nat}{m:List eS}(hm:l[i]?=some m):∀ h,iu v l h→seps [iL (blk v) (eg v+i * 1) m,Es v l i] h:=GI hm
theorem tq{v:Value}{l:List eI}{i:Nat}(m':eI):∀ h,seps [eb (blk v) (eg v+i * 3) m',rH v l i] h→dY v (l.set i m') h:=qp m'
theorem tt{v:Value}{l:List kz}{i:Nat}(m':kz):∀ h,seps [hD (blk v) (eg v+i * 2) m',zw v l i] h→fw v (l.set i m') h:=qp m'
theorem GQ{v:Value}{l:List (List eS)}{i:Nat}(m':List eS):∀ h,seps [iL (blk v) (eg v+i * 1) m',Es v l i] h→iu v (l.set i m') h:=qp m'
theorem fA{α:Type}{l:List α}{i:Nat}{x:α}(h:l[i]?=some x):l.set i x=l:=by
 apply List.ext_getElem?
 intro j
 by_cases e:i=j
 ·subst e;rw[List.getElem?_set_self (List.getElem?_eq_some_iff.1 h).1,h]
 ·rw[List.getElem?_set_ne e]
theorem oR{v:Value}{l:List eI}{i:Nat}{m:eI}(hm:l[i]?=some m):∀ h,seps [eb (blk v) (eg v+i * 3) m,rH v l i] h→dY v l h:=fun h a=>by have:=tq m h a;rwa [fA hm] at this
theorem GR{v:Value}{l:List kz}{i:Nat}{m:kz}(hm:l[i]?=some m):∀ h,seps [hD (blk v) (eg v+i * 2) m,zw v l i] h→fw v l h:=fun h a=>by have:=tt m h a;rwa [fA hm] at this
theorem fB{p:Prop}[Decidable p]{α:Type}{a:α}(h:(if p then some a else none).isNone=false):p:=by
 by_cases hp:p
 ·exact hp
 ·rw[if_neg hp] at h;cases h
theorem fP{p:Prop}[Decidable p]{α:Type}{a:α}(h:(if p then some a else none).isNone=true):¬p:=by
 intro hp
 rw[if_pos hp] at h;cases h
theorem zx{p:Prop}[Decidable p]{α:Type}{a:α}(h:(!(if p then some a else none).isNone)=true):p:=fB (by simpa only[Bool.not_eq_true'] using h)
theorem Bo{p:Prop}[Decidable p]{α:Type}{a:α}(h:(!(if p then some a else none).isNone)=false):¬p:=fP (by simpa only[Bool.not_eq_false'] using h)
section
variable{g:Gates}{who m c choice s:Int}{x:eI}{r:List eS}{y:kz}
theorem vN(h:¬(0≤m∧m<(g.dh.length:Int))):g.lock who m=(false,1,g):=by unfold Gates.lock;rw[eL h]
theorem q8(h:aB g.dh m=some x)(hb:(g.waits who || x.is who)=true):g.lock who m=(false,4,g):=by unfold Gates.lock;rw[h];simp only;rw[if_pos (by simpa using hb)]
theorem vO(h:aB g.dh m=some x)(hb:(g.waits who || x.is who)=false):g.lock who m=((x.lock who).1,0,{g with dh:=g.dh.set m.toNat (x.lock who).2 }):=by unfold Gates.lock;rw[h];simp only;rw[if_neg (by simpa using hb)]
theorem q9(h:¬(0≤m∧m<(g.dh.length:Int))):g.unlock who m choice=(0,false,1,g):=by unfold Gates.unlock;rw[eL h]
theorem oS(h:aB g.dh m=some x)(hb:x.is who=false):g.unlock who m choice=(0,false,5,g):=by unfold Gates.unlock;rw[h];simp only;rw[if_neg (by simpa using hb)]
theorem ra(h:aB g.dh m=some x)(hb:x.is who=true):g.unlock who m choice=((x.unlock choice).1,(x.unlock choice).2.1,0,{g with dh:=g.dh.set m.toNat (x.unlock choice).2.2 }):=by unfold Gates.unlock;rw[h];simp only;rw[if_pos hb]
theorem nO(h:¬(0≤m∧m<(g.dh.length:Int))):g.wait who c m choice=(0,false,1,g):=by unfold Gates.wait;rw[eL h]
theorem nP(h:¬(0≤c∧c<(g.gZ.length:Int))):g.wait who c m choice=(0,false,1,g):=by unfold Gates.wait;rw[eL h];cases aB g.dh m <;> rfl
theorem zy(h:aB g.dh m=some x)(h2:aB g.gZ c=some r)(hb:g.waits who=true):g.wait who c m choice=(0,false,4,g):=by unfold Gates.wait;rw[h,h2];simp only;rw[if_pos hb]
theorem nQ(h:aB g.dh m=some x)(h2:aB g.gZ c=some r)(hb:g.waits who=false)(ho:x.is who=false):g.wait who c m choice=(0,false,5,g):=by unfold Gates.wait;rw[h,h2];simp only;rw[if_neg (by rw[hb];simp),if_neg (by rw[ho];simp)]
theorem qu(h:aB g.dh m=some x)(h2:aB g.gZ c=some r)(hb:g.waits who=false)(ho:x.is who=true):g.wait who c m choice=((x.unlock choice).1,(x.unlock choice).2.1,0,{g with dh:=g.dh.set m.toNat (x.unlock choice).2.2,gZ:=g.gZ.set c.toNat (r++[⟨who,m⟩]) }):=by unfold Gates.wait;rw[h,h2];simp only;rw[if_neg (by rw[hb];simp),if_pos ho]
theorem rb{all:Bool}(h:¬(0≤c∧c<(g.gZ.length:Int))):g.signal c choice all=([],1,g):=by unfold Gates.signal;rw[eL h]
theorem re{all:Bool}{z:List eS×List eI×List Int}(h2:aB g.gZ c=some r)(hz:sigLoop (if all=true then r.length else min r.length 1) (if all=true then 0 else choice) r g.dh []=z):g.signal c choice all=(z.2.2,0,{g with dh:=z.2.1,gZ:=g.gZ.set c.toNat z.1 }):=by unfold Gates.signal;rw[h2];simp only;rw[hz]
theorem vP(h:¬(0≤s∧s<(g.er.length:Int))):g.down who s=(false,1,g):=by unfold Gates.down;rw[eL h]
theorem zz(h:aB g.er s=some y)(hb:g.waits who=true):g.down who s=(false,4,g):=by unfold Gates.down;rw[h];simp only;rw[if_pos hb]
theorem vQ(h:aB g.er s=some y)(hb:g.waits who=false)(hc:0<y.count):g.down who s=(true,0,{g with er:=g.er.set s.toNat {y with count:=y.count-1 } }):=by unfold Gates.down;rw[h];simp only;rw[if_neg (by rw[hb];simp),if_pos hc]
theorem rf(h:aB g.er s=some y)(hb:g.waits who=false)(hc:¬ 0<y.count):g.down who s=(false,0,{g with er:=g.er.set s.toNat {y with wait:=y.wait++[⟨who,0⟩] } }):=by unfold Gates.down;rw[h];simp only;rw[if_neg (by rw[hb];simp),if_neg hc]
theorem C0(h:¬(0≤s∧s<(g.er.length:Int))):g.up s choice=(0,false,1,g):=by unfold Gates.up;rw[eL h]
theorem vR(h:aB g.er s=some y)(hb:(aP y.wait choice).2.1=true):g.up s choice=((aP y.wait choice).1.who,true,0,{g with er:=g.er.set s.toNat {y with wait:=(aP y.wait choice).2.2 } }):=by unfold Gates.up;rw[h];simp only;rw[if_pos hb]
theorem vS(h:aB g.er s=some y)(hb:(aP y.wait choice).2.1=false)(hc:1048576≤y.count):g.up s choice=(0,false,2,g):=by unfold Gates.up;rw[h];simp only;rw[if_neg (by rw[hb];simp),if_pos hc]
theorem C1(h:aB g.er s=some y)(hb:(aP y.wait choice).2.1=false)(hc:¬ 1048576≤y.count):g.up s choice=(0,false,0,{g with er:=g.er.set s.toNat {y with count:=y.count+1 } }):=by unfold Gates.up;rw[h];simp only;rw[if_neg (by rw[hb];simp),if_neg hc]
end
theorem Et{l:List eS}{c:Int}(h:(aP l c).2.1=false):(aP l c).2.2=l:=by
 unfold aP at *
 split
 ·rfl
 ·rename_i hl;rw[if_neg hl] at h;cases h
def Bp(r:List eS)(c:Int)(ms:List eI):Bool×eI:=(ms.getD (aP r c).1.mutex.toNat Jv).lock (aP r c).1.who
theorem GS{n:Nat}{c:Int}{r:List eS}{ms:List eI}{out:List Int} :
  sigLoop (n+1) c r ms out=sigLoop n c (aP r c).2.2 (ms.set (aP r c).1.mutex.toNat (Bp r c ms).2) (if (Bp r c ms).1=true then out++[(aP r c).1.who] else out):=rfl
theorem kl{l:List eS}{c:Int}(h:l.length≠0):(aP l c).1∈l∧(aP l c).2.2.length+1=l.length∧(∀ w∈(aP l c).2.2,w∈l):=by
 rw[rT h]
 have hp:pick c l.length<l.length:=kN (by omega)
 refine⟨List.mem_of_getElem? (getD_some hp),?_,fun w hw=>(List.eraseIdx_sublist _ _).mem hw⟩
 have:=List.length_eraseIdx_of_lt hp
 show(l.eraseIdx (pick c l.length)).length+1=_
 omega
theorem GU{m:eI}{who:Int}:(m.lock who).2.wait.length≤m.wait.length+1:=by
 unfold eI.lock
 split <;> simp
structure oT(r0:List eS)(ms0:List eI)(n0:Nat)(c:Int)(k:Nat)(r:List eS)(ms:List eI)(out:List Int):Prop where
 hk:k≤n0
 len:r.length+k=r0.length
 mem:∀ w∈r,w∈r0
 ml:ms.length=ms0.length
 mw:∀ m∈ms,m.wait.length≤1000000+k
 ol:out.length≤k
 eq:sigLoop n0 c r0 ms0 []=sigLoop (n0-k) c r ms out
theorem oT.zero{r0:List eS}{ms0:List eI}{n0:Nat}{c:Int}(h:∀ m∈ms0,m.wait.length≤1000000):oT r0 ms0 n0 c 0 r0 ms0 []:=⟨Nat.zero_le _,rfl,fun _ h=>h,rfl,h,Nat.le_refl _,rfl⟩
theorem oT.next{r0 r:List eS}{ms0 ms:List eI}{n0 k:Nat}{c:Int}{out:List Int}(h:oT r0 ms0 n0 c k r ms out)(hk:k<n0)(h0:n0≤r0.length) :
  oT r0 ms0 n0 c (k+1) (aP r c).2.2 (ms.set (aP r c).1.mutex.toNat (Bp r c ms).2) (if (Bp r c ms).1=true then out++[(aP r c).1.who] else out):=by
 have hl:=h.len
 obtain⟨h1,h2,h3⟩:=kl (l:=r) (c:=c) (by omega)
 refine⟨by omega,by omega,fun w hw=>h.mem w (h3 w hw),by rw[List.length_set];exact h.ml,fun m hm=>?_,?_,?_⟩
 ·rcases List.mem_or_eq_of_mem_set hm with e | e
  ·have:=h.mw m e;omega
  ·subst e
   unfold Bp
   have:=GU (m:=ms.getD (aP r c).1.mutex.toNat Jv) (who:=(aP r c).1.who)
   have h5:(ms.getD (aP r c).1.mutex.toNat Jv).wait.length≤1000000+k:=by
    rw[List.getD_eq_getElem?_getD]
    cases e:ms[(aP r c).1.mutex.toNat]? with
    | none=>exact Nat.zero_le _
    | some m=>exact h.mw m (List.mem_of_getElem? e)
   omega
 ·have:=h.ol
  split <;> simp <;> omega
 ·rw[h.eq,show n0-k=(n0-(k+1))+1 by omega,GS]
theorem oT.done{r0 r:List eS}{ms0 ms:List eI}{n0 k:Nat}{c:Int}{out:List Int}(h:oT r0 ms0 n0 c k r ms out)(hk:¬k<n0):sigLoop n0 c r0 ms0 []=(r,ms,out):=by
 rw[h.eq,show n0-k=0 by omega];rfl
end Go.SLYthlllpngkljgfaaGreat
namespace Go.SLYthlllpngkljgfaaGreat
open Go Go.RowKit
structure tu(t:Tub):Prop where
 w:t.words.length≤1000000
 p:t.hM.length≤1000000
 g:t.gM.length≤1000000
section
variable{t:Tub}{who x w:Int}{r:List Int}{p:Ptr}{q:List Ptr}
theorem vT(h:t.waits who=true):t.put who x=(false,0,false,t):=by unfold Tub.put;rw[if_pos h]
theorem rW(h:t.waits who=false)(hg:t.gM=w::r):t.put who x=(true,w,true,{t with gM:=r }):=by unfold Tub.put;rw[if_neg (by rw[h];simp),hg]
theorem oU(h:t.waits who=false)(hg:t.gM=[])(hr:(t.words.length:Int)<t.room):t.put who x=(true,0,false,{t with words:=t.words++[x] }):=by unfold Tub.put;rw[if_neg (by rw[h];simp),hg];simp only;rw[if_pos hr]
theorem oV(h:t.waits who=false)(hg:t.gM=[])(hr:¬(t.words.length:Int)<t.room):t.put who x=(false,0,false,{t with hM:=t.hM++[⟨who,x⟩] }):=by unfold Tub.put;rw[if_neg (by rw[h];simp),hg];simp only;rw[if_neg hr]
theorem qv(h:t.waits who=true):t.get who=(0,false,0,false,t):=by unfold Tub.get;rw[if_pos h]
theorem get_none(h:t.waits who=false)(hg:t.words=[]):t.get who=(0,false,0,false,{t with gM:=t.gM++[who] }):=by unfold Tub.get;rw[if_neg (by rw[h];simp),hg]
theorem oW(h:t.waits who=false)(hg:t.words=x::r)(hp:t.hM=[]):t.get who=(x,true,0,false,{t with words:=r }):=by unfold Tub.get;rw[if_neg (by rw[h];simp),hg,hp]
theorem oX(h:t.waits who=false)(hg:t.words=x::r)(hp:t.hM=p::q):t.get who=(x,true,p.who,true,{t with words:=r++[p.x],hM:=q }):=by unfold Tub.get;rw[if_neg (by rw[h];simp),hg,hp]
end
theorem xM{α:Type}{l:List α}(h:¬l.length=0):∃ x r,l=x::r:=by
 cases l with
 | nil=>exact absurd rfl h
 | cons x r=>exact⟨x,r,rfl⟩
theorem Bq{α:Type}{l:List α}(h:l.length=0):l=[]:=List.eq_nil_of_length_eq_zero h
section
variable{d:kF}{r:vC}{k:Int}
theorem C2(h:(decide (r.block<0) || decide ((d.blocks.length:Int)≤r.block))=true):d.ask r=(1,d):=by unfold kF.ask;rw[if_pos (by simpa using h)]
theorem GV(h:(decide (r.block<0) || decide ((d.blocks.length:Int)≤r.block))=false)(h2:d.wait.any (fun x=>decide (x.who=r.who))=true):d.ask r=(4,d):=by unfold kF.ask;rw[if_neg (by simpa using h),if_pos h2]
theorem GW(h:(decide (r.block<0) || decide ((d.blocks.length:Int)≤r.block))=false)(h2:d.wait.any (fun x=>decide (x.who=r.who))=false):d.ask r=(0,{d with wait:=d.wait++[r] }):=by unfold kF.ask;rw[if_neg (by simpa using h),if_neg (by rw[h2];simp)]
def xN:vC:=⟨0,0,false,0⟩
theorem qw(h:d.wait.length=0):d.done k=(⟨0,0,false,0⟩,0,false,d):=by unfold kF.done;rw[if_pos h]
theorem nR(h:¬d.wait.length=0)(hr:d.wait.getD (pick k d.wait.length) xN=r)(hw:r.write=true):d.done k=(r,0,true,{d with wait:=d.wait.eraseIdx (pick k d.wait.length),blocks:=d.blocks.set r.block.toNat r.x }):=by
 subst hr;unfold xN at *;unfold kF.done;rw[if_neg h];simp only;rw[if_pos hw]
theorem qx(h:¬d.wait.length=0)(hr:d.wait.getD (pick k d.wait.length) xN=r)(hw:r.write=false):d.done k=(r,d.blocks.getD r.block.toNat 0,true,{d with wait:=d.wait.eraseIdx (pick k d.wait.length) }):=by
 subst hr;unfold xN at *;unfold kF.done;rw[if_neg h];simp only;rw[if_neg (by rw[hw];simp)]
end
end Go.SLYthlllpngkljgfaaGreat
