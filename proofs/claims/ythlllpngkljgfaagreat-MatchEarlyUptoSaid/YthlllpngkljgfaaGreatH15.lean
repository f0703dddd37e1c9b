/- Walks of functions, and what they compute. Conditions: none, this text proves no statement. -/
import Derived.Test.YthlllpngkljgfaaGreatH12
import Derived.Test.YthlllpngkljgfaaGreatH06
import Derived.Test.YthlllpngkljgfaaGreatH11
import Derived.Test.YthlllpngkljgfaaGreatH07
import Derived.Test.YthlllpngkljgfaaGreatProg
import Derived.Test.YthlllpngkljgfaaGreatH14
import Derived.KernelRfl
set_option maxRecDepth 20000
set_option maxHeartbeats 4000000
namespace Go.SLYthlllpngkljgfaaGreat
open Go Go.RowKit
def IZ(l:Lib)(c:Int)(r:gj×Lib):Prop:=r.2.aO=if r.1.aK=true then (l.aO.run r.1.slot c).2.2 else l.aO
theorem I0(l:Lib)(p c:Int):IZ l c ((l.step p c).1,(l.step p c).2.2):=by
 unfold Lib.step
 split
 ·simp only
  split
  ·unfold Lib.upcall
   split
   ·unfold Lib.recover
    simp only
    split
    ·show Lib.aO (if _ then _ else _)=_
     split <;> rfl
    ·rfl
   ·unfold Lib.enter;split <;> rfl
  ·split
   ·unfold Lib.handle
    split
    ·rfl
    ·show Lib.aO (Lib.iT (if _ then _ else _) _ _)=_
     split <;> rfl
   ·split
    ·unfold Lib.enter;split <;> rfl
    ·split
     ·unfold Lib.pick;split <;> rfl
     ·split
      ·unfold Lib.gQ
       simp only
       split
       ·rfl
       ·unfold IZ
        show Lib.aO (Lib.tell _ _)=_
        rw[(dA _ _).1.aO]
        split
        ·rfl
        ·split <;> rfl
      ·split
       ·unfold Lib.enter;split <;> rfl
       ·split
        ·unfold Lib.inside
         simp only
         split
         ·split <;> rfl
         ·rfl
        ·split
         ·split <;> rfl
         ·rfl
 ·rfl
theorem p9{k:Krn}{o:List Int}{j:Nat}(x:Lib):dQ ⟨o,k.libs.set j x⟩=(dQ k).set j x.aO:=by unfold dQ;rw[List.map_set]
theorem qc{k:Krn}{n:Int}:aB (dQ k) n=(aB k.libs n).map (·.aO):=mm
theorem xe{k:Krn}{j:Nat}{l:Lib}(h:k.libs[j]?=some l):(dQ k).set j l.aO=dQ k:=fA (by unfold dQ;rw[List.getElem?_map,h];rfl)
structure KY(s s':Sy)(r:List gw):Prop where
 log:s'.log=s.log++r
 one:r=[]∧dQ s'.k=dQ s.k∨ ∃ a,r=[a]∧oDo (dQ s.k) a=(0,dQ s'.k)
theorem DQ.acts{i:Nat}{s:Sy}(h:DQ i s)(hi:i≤400)(x:uf):∃ r,KY s (s.do x).2 r:=by
 have hO:dB (i+2) (dQ s.k):=fun t ht=>by
  obtain⟨l,hl,rfl⟩:=List.mem_map.1 ht
  exact(h.b.k.gY l hl).sp
 have none:∀ {s':Sy},s'.log=s.log→dQ s'.k=dQ s.k→ ∃ r,KY s s' r:=fun h1 h2=>⟨[],by rw[List.append_nil];exact h1,.inl ⟨rfl,h2⟩⟩
 unfold Sy.do
 split
 ·by_cases e:du s.k x.a=0
  ·obtain⟨n,j,l,hn,ho,hl, -⟩:=dy h.b.k.ok e
   have hs:=I0 l (n:Int) x.b
   unfold IZ at hs
   have hm:=List.mem_of_getElem? hl
   cases hc:(s.k.step x.a x.b).1.2.1.aK with
   | false =>
    refine none ?_ ?_
    ·rw[uE hc]
    ·rw[uE hc]
     rw[hn,iG ho hl] at hc ⊢
     simp only at hc ⊢
     rw[p9]
     rw[hc] at hs
     rw[show(l.step (n:Int) x.b).2.2.aO=l.aO from hs]
     exact xe hl
   | true =>
    refine⟨[⟨1,(s.k.step x.a x.b).1.1,(s.k.step x.a x.b).1.2.1.slot,x.b⟩],?_,.inr ⟨_,rfl,?_⟩⟩
    ·rw[qP hc]
    ·rw[qP hc]
     rw[hn,iG ho hl] at hc ⊢
     simp only at hc ⊢
     rw[hc] at hs
     obtain⟨w,q,hw,hw16,hpl, -, -⟩:=FG (h.p l hm) (h.k l hm) (h.b.k.ok.gY l hm).th hc
     have hlen:=qR (h.p l hm) (h.k l hm) (w:=(w:Int)) (by omega)
     rw[hpl] at hlen
     have hg:aB (dQ s.k) (j:Int)=some l.aO:=by rw[qc,bb,hl];rfl
     have h0:=(HO hO (by omega) (a:=⟨1,(j:Int),(l.step (n:Int) x.b).1.slot,x.b⟩) rfl).2 (by
      unfold oReady
      simp only
      rw[hg,hw]
      exact mem_ready.2 hlen.symm)
     refine Prod.ext h0 ?_
     rw[Dv rfl hg,p9]
     show _=(dQ s.k).set j _
     rw[show(l.step (n:Int) x.b).2.2.aO=_ from hs]
     simp only[Int.toNat_natCast,if_true]
  ·refine none ?_ ?_
   ·show s.log++jQ _ _=_
    rw[gF e];exact List.append_nil _
   ·show dQ (s.k.step x.a x.b).2=_
    rw[gF e]
 ·split
  ·refine⟨[⟨3,0,0,0⟩],rfl,.inr ⟨_,rfl,?_⟩⟩
   unfold oDo
   rw[if_pos rfl]
   refine Prod.ext rfl ?_
   show List.map _ (dQ s.k)=dQ s.k.tick
   unfold dQ Krn.tick
   rw[List.map_map,List.map_map]
   refine List.map_congr_left fun l hl=>?_
   show l.aO.tick.2=l.cA.aO
   unfold Lib.cA
   rw[(dA _ _).1.aO]
  ·split
   ·by_cases e:(s.k.done x.a x.b).1=0
    ·refine⟨[⟨2,x.a,0,x.b⟩],?_,.inr ⟨_,rfl,?_⟩⟩
     ·show s.log++(if _ then _ else _)=_
      rw[if_pos e]
     ·cases g:aB s.k.libs x.a with
      | none=>rw[pN g] at e;cases e
      | some l =>
       obtain⟨h0, -,hl⟩:=bF g
       obtain⟨j,hj⟩:∃ j:Nat,x.a=(j:Int):=⟨x.a.toNat,by omega⟩
       rw[hj,Int.toNat_natCast] at hl
       have hg:aB (dQ s.k) (j:Int)=some l.aO:=by rw[qc,bb,hl];rfl
       rw[hj] at e ⊢
       rw[mz hl] at e
       rw[Ad rfl hg]
       refine Prod.ext e ?_
       show _=dQ (s.k.done (j:Int) x.b).2
       rw[mz hl,p9]
       unfold Lib.fH
       rw[(dA _ _).1.aO]
       simp only[Int.toNat_natCast]
    ·refine none ?_ ?_
     ·show s.log++(if _ then _ else _)=_
      rw[if_neg e,List.append_nil]
     ·show dQ (s.k.done x.a x.b).2=_
      rw[FC e]
   ·split
    ·refine none rfl ?_
     show dQ (s.k.preempt x.a).2=_
     by_cases e:du s.k x.a=0
     ·obtain⟨n,j,l,hn,ho,hl, -⟩:=dy h.b.k.ok e
      rw[hn,pM ho hl,p9,mn]
      exact xe hl
     ·rw[my e]
    ·split
     ·exact none rfl rfl
     ·split
      ·exact none rfl (fF h.b.k.inv _ _).2.aO
      ·exact none rfl rfl
structure CA(l0:List Spc)(s:Sy):Prop where
 run:fg l0 s.log=dQ s.k
 ok:∀ n a,s.log[n]?=some a→(oDo (fg l0 (s.log.take n)) a).1=0
theorem I1(l:List Spc)(acts:List gw)(a:gw):fg l (acts++[a])=(oDo (fg l acts) a).2:=by unfold fg;rw[List.foldl_append];rfl
theorem CA.do{l0:List Spc}{i:Nat}{s:Sy}(h:CA l0 s)(hp:DQ i s)(hi:i≤400)(x:uf):CA l0 (s.do x).2:=by
 obtain⟨r,hl,h1⟩:=hp.acts hi x
 rcases h1 with ⟨rfl,e⟩ | ⟨a,rfl,e⟩
 ·rw[List.append_nil] at hl
  exact⟨by rw[hl,h.run,e],by rw[hl];exact h.ok⟩
 ·refine⟨by rw[hl,I1,h.run,e],fun n b hb=>?_⟩
  rw[hl] at hb ⊢
  by_cases g:n<s.log.length
  ·rw[List.getElem?_append_left g] at hb
   rw[List.take_append_of_le_length (by omega)]
   exact h.ok n b hb
  ·have hn:n=s.log.length:=by
    have:=(List.getElem?_eq_some_iff.1 hb).1
    rw[List.length_append] at this
    simp only[List.length_cons,List.length_nil] at this
    omega
   subst hn
   rw[List.getElem?_append_right (Nat.le_refl _),Nat.sub_self] at hb
   cases hb
   rw[List.take_left,h.run,e]
theorem CA.new{procs:Int}{ps:List fM}(h:ec procs ps=0):CA (ps.map Spc.new) (Sy.new procs ps):=by
 refine⟨?_,fun n a hb=>by cases hb⟩
 show ps.map Spc.new=dQ _
 rw[show dQ (Sy.new procs ps).k=dQ (Krn.new procs ps) from(fF (iW h).1 _ _).2.aO]
 unfold dQ Krn.new
 simp only[List.map_map]
 refine List.map_congr_left fun p _=>?_
 rfl
def replay:List Spc→List gw→Nat→Int×Int×List Spc
 | l,[],k=>((k:Int),0,l)
 | l,a::r,k=>if (oDo l a).1=0 then replay (oDo l a).2 r (k+1) else ((k:Int),(oDo l a).1,(oDo l a).2)
theorem uR{l:List Spc}:∀ (acts:List gw) (m:Nat),m≤acts.length→(∀ n a,acts[n]?=some a→(oDo (fg l (acts.take n)) a).1=0)→replay (fg l (acts.take (acts.length-m))) (acts.drop (acts.length-m)) (acts.length-m)=((acts.length:Int),0,fg l acts)
 | acts,0,_,_=>by rw[Nat.sub_zero,List.drop_length,List.take_length];rfl
 | acts,m+1,hm,hk=>by
  obtain⟨a,ha⟩:=ak (show acts.length - (m+1)<acts.length by omega)
  rw[drop_cons ha,replay,if_pos (hk _ a ha), ← wA ha]
  have:=uR acts m (by omega) hk
  rw[show acts.length-m=acts.length-(m+1)+1 by omega] at this
  exact this
theorem AS{l:List Spc}{acts:List gw}(hk:∀ n a,acts[n]?=some a→(oDo (fg l (acts.take n)) a).1=0):replay l acts 0=((acts.length:Int),0,fg l acts):=by
 have:=uR acts acts.length (Nat.le_refl _) hk
 rw[Nat.sub_self,List.take_zero,List.drop_zero] at this
 exact this
theorem CA.cut{l0:List Spc}{s:Sy}(h:CA l0 s){n:Nat}:replay l0 (s.log.take n) 0=(((s.log.take n).length:Int),0,fg l0 (s.log.take n)):=AS fun m a ha=>by
 have hm:=(List.getElem?_eq_some_iff.1 ha).1
 rw[List.length_take] at hm
 rw[List.getElem?_take_of_lt (by omega)] at ha
 rw[List.take_take,Nat.min_eq_left (by omega)]
 exact h.ok m a ha
theorem CB(l:List Spc)(a b:List gw):fg l (a++b)=fg (fg l a) b:=by unfold fg;rw[List.foldl_append]
end Go.SLYthlllpngkljgfaaGreat
namespace Go.SLYthlllpngkljgfaaGreat
open Go Go.RowKit
theorem CC{procs:Int}{ps:List fM}(h:ec procs ps=0):dV ps=0:=by
 unfold ec at h
 split at h
 ·cases h
 ·unfold dV
  rw[if_neg (by omega)];exact h
theorem KF{n:Nat}{s:Spc}(h:gE n s)(hn:n≤1990)(k:Nat)(a:gw):s.av <+: (JY s k a).av:=by
 unfold JY
 split
 ·exact h.MY
 ·split
  ·exact List.prefix_rfl
  ·split
   ·exact h.NF hn _ _
   ·split
    ·exact h.MX _
    ·exact List.prefix_rfl
theorem DS:∀ (acts:List gw) {l:List Spc} {k:Nat},dB k l→k+acts.length≤1990→ ∀ n:Int,eO l n <+: eO (fg l acts) n
 | [],_,_,_,_,_=>List.prefix_rfl
 | a::r,l,k,h,hk,n=>by
  simp only[List.length_cons] at hk
  refine List.IsPrefix.trans ?_ (DS r (h.act (by omega) a) (by omega) n)
  cases g:aB l n with
  | none=>rw[show eO l n=[] by unfold eO;rw[g]];exact List.nil_prefix
  | some s =>
   obtain⟨h0, -,hs⟩:=bF g
   obtain⟨j,rfl⟩:∃ j:Nat,n=(j:Int):=⟨n.toNat,by omega⟩
   rw[Int.toNat_natCast] at hs
   rw[Ae hs,Ae (EX hs a)]
   exact KF (h s (List.mem_of_getElem? hs)) (by omega) j a
theorem CA.OR{l0:List Spc}{s:Sy}(ho:dB 1 l0)(hl:s.log.length≤1000)(n:Nat):dB 1001 (fg l0 (s.log.take n)):=by
 have:=sq ho (s.log.take n) (s.log.take n).length (Nat.le_refl _) (by rw[List.length_take];omega)
 rw[List.take_length] at this
 exact this.more (by rw[List.length_take];omega)
theorem yF{W:World}{H:List aa}{x y:Nat}(hy:At H (arr y 0 [.slice (some ⟨x,0,none⟩) 2 2]))(hx:At H (arr x 0 (rows dH I7))):∀ p∈ [nm x y],eM W H p:=fun p hp=>by
 have e:p=nm x y:=by simpa using hp
 subst e
 refine⟨Rd.lit hy rfl (fun _ _=>rfl) rfl,fun q hq=>?_,Rd.nil,Rd.nil⟩
 rw[show(nm x y).fs=[(.slice (some ⟨x,0,none⟩) 2 2,I7)] from rfl,List.mem_singleton] at hq
 subst hq
 exact Rd.lit hx rfl (fun _ _=>rfl) rfl
theorem DT:(Mj 0).k.libs.length=1:=by decide +kernel
theorem CA.px{l0:List Spc}{s:Sy}(h:CA l0 s)(ho:dB 1 l0)(hl:s.log.length≤1000)(n:Nat)(m:Int):eO (fg l0 (s.log.take n)) m <+: eO (dQ s.k) m:=by
 rw[← h.run]
 conv=>rhs;rw[← List.take_append_drop n s.log,CB]
 have hc:dB (1+(s.log.take n).length) (fg l0 (s.log.take n)):=by
  have:=sq ho (s.log.take n) (s.log.take n).length (Nat.le_refl _) (by rw[List.length_take];omega)
  rwa [List.take_length] at this
 exact DS _ hc (by rw[List.length_take,List.length_drop];omega) m
theorem xf{s:Sy}(n:Int):eO (dQ s.k) n=s.av n∧yi (dQ s.k) n=s.mem n:=by
 unfold eO yi Sy.av Sy.mem
 rw[qc]
 cases aB s.k.libs n with
 | none=>exact⟨rfl,rfl⟩
 | some l=>exact⟨rfl,rfl⟩
theorem CD{k:Krn}{n:Nat}{l:Lib}(h:k.libs[n]?=some l):oReady (dQ k) (n:Int)=l.aO.ready:=by
 unfold oReady
 rw[qc,bb,h];rfl
theorem KG{a b:List Rec}(h:a <+: b):a.length≤b.length∧b.take a.length=a:=by
 obtain⟨t,rfl⟩:=h
 refine⟨by rw[List.length_append];omega,?_⟩
 rw[List.take_left]
def ly(ps:List fM)(acts:List gw):Int×Int×List Spc:=if dV ps=0 then replay (ps.map Spc.new) acts 0 else (0,dV ps,[])
theorem CE{ps:List fM}{acts:List gw}(h:¬dV ps=0):ly ps acts=(0,dV ps,[]):=if_neg h
theorem mO{ps:List fM}{acts:List gw}(h:dV ps=0):ly ps acts=replay (ps.map Spc.new) acts 0:=if_pos h
theorem FJ{l:List Spc}{acts:List gw}{k:Nat}{a:gw}(h:acts[k]?=some a)(he:(oDo l a).1=0):replay l (acts.drop k) k=replay (oDo l a).2 (acts.drop (k+1)) (k+1):=by rw[drop_cons h,replay,if_pos he]
theorem AT{l:List Spc}{acts:List gw}{k:Nat}{a:gw}(h:acts[k]?=some a)(he:¬(oDo l a).1=0):replay l (acts.drop k) k=((k:Int),(oDo l a).1,(oDo l a).2):=by rw[drop_cons h,replay,if_neg he]
theorem CF{l:List Spc}{acts:List gw}{k:Nat}(h:k=acts.length):replay l (acts.drop k) k=((k:Int),0,l):=by subst h;rw[List.drop_length];rfl
/-! law 20's own fact -/
def Nl:List gw:=[⟨1,0,0,0⟩,⟨1,0,0,0⟩,⟨2,0,0,0⟩]
theorem N8:dV [DK]=0:=by decide +kernel
def FL:Int×Int×List Spc:=ly [DK] Nl
theorem OS:FL.1=2:=by decide +kernel
theorem N9:FL.2.1=3:=by decide +kernel
theorem Oa:(eO FL.2.2 0).length=1:=by decide +kernel
theorem Ob:FL.2.2.length=1:=by decide +kernel
theorem Oc:oDo (fg ([DK].map Spc.new) [⟨1,0,0,0⟩,⟨1,0,0,0⟩]) ⟨2,0,0,0⟩=(3,FL.2.2):=by
 have h1:(oDo (fg ([DK].map Spc.new) [⟨1,0,0,0⟩,⟨1,0,0,0⟩]) ⟨2,0,0,0⟩).1=3:=by decide +kernel
 exact Prod.ext h1 rfl
theorem OT:dB 4 FL.2.2:=by
 have h0:dB 1 ([DK].map Spc.new):=dB.new N8 Kw
 have h1:=sq h0 [⟨1,0,0,0⟩,⟨1,0,0,0⟩] 2 (by decide) (by decide)
 have h2:=h1.act (by decide) ⟨2,0,0,0⟩
 rw[show fg ([DK].map Spc.new) (List.take 2 [⟨1,0,0,0⟩,⟨1,0,0,0⟩])=fg ([DK].map Spc.new) [⟨1,0,0,0⟩,⟨1,0,0,0⟩] from rfl,Oc] at h2
 exact h2
end Go.SLYthlllpngkljgfaaGreat
namespace Go.SLYthlllpngkljgfaaGreat
open Go Go.RowKit Go.Proofs Go.Proofs.Tryz
attribute [local irreducible] aq aS bc bx bC Y
theorem I2{W:World}{A:aa}{v u:Value}{xs ys:List Rec}(hv:Rd W [A] cP 6 v xs)(hu:Rd W [A] cP 6 u ys)(hl:xs.length≤1000000000):Fn Tryz.prog W 116 [v,u] [A] Unit (fun _=>.bool (decide (xs=ys))) (fun _=>True) (fun _=>[A]):=by
 refine Fn.intro (N:=26) func116 rfl ntmps116 rfl fun F=>?_
 haveI hRI:∀ (H:List aa) [bf H A],aw W H v cP 6 xs:=fun H h=>⟨hv.at h.has⟩
 haveI hRJ:∀ (H:List aa) [bf H A],aw W H u cP 6 ys:=fun H h=>⟨hu.at h.has⟩
 show aq _ _ _ _ _ _ [A,F]
 refine JD 15 (fun h10=>?_) fun h10=>?_
 ·refine J 7 ?_
  refine .aG rfl rfl fun w s=>⟨(),?_,trivial,ai .auto s⟩
  rw[decide_eq_false (fun e=>h10 (by rw[e]))]
 ·refine J 11 ?_
  refine .bn (X:=Nat) [4,5,13,14,15,16,17,18,19,20,21,22,23,24,25] (fun k=>xs.length-k) (fun k=>k≤xs.length∧xs.take k=ys.take k) (fun k=>[(13,some (.int .i64 (k:Int)))]) (fun k=>[A,F]) 0 ?_ ?_ ?_ ?_
  ·exact⟨Nat.zero_le _,rfl⟩
  ·exact⟨rfl,trivial⟩
  ·exact fun w s=>ax.kept .auto w s
  rintro k ⟨hk,hn⟩
  refine JD 6 (fun h14=>?_) fun h14=>?_
  ·refine J 11 ?_
   refine .draw [] [1,1,1,1,1,1,1,1,1] rfl (by kernel_rfl) ?_
   obtain⟨x,hx⟩:=ak (show k<xs.length by omega)
   obtain⟨y,hy⟩:=ak (show k<ys.length by omega)
   refine J 3 ?_
   refine .p (.la rfl (Cells.rd Rd.s hx)) ?_
   refine J 3 ?_
   refine .p (.la rfl (Cells.rd Rd.s hy)) ?_
   refine .p (.F0 (by kernel_rfl) KW rfl rfl rfl) ?_
   refine JD 2 (fun h24=>?_) fun h24=>?_
   ·have h24:x≠y:=by simpa using h24
    refine J 11 ?_
    refine .aG rfl rfl fun w s=>⟨(),?_,trivial,ai .auto s⟩
    rw[decide_eq_false (fun e=>h24 (by rw[e] at hx;exact Option.some.inj (hx.symm.trans hy)))]
   ·have h24:¬x≠y:=by simpa using h24
    refine J 7 ?_
    refine .aL (k+1) .auto rfl ?_ ?_ ?_ ?_
    ·first | omega | (dsimp only;omega)
    ·exact⟨by omega,by rw[aX hx,aX hy,hn,Decidable.of_not_not h24]⟩
    ·exact⟨rfl,trivial⟩
    ·exact fun w s=>ax.kept .auto w s
  ·refine J 11 ?_
   obtain rfl:k=xs.length:=by omega
   rw[List.take_length,List.take_of_length_le (by omega)] at hn
   refine .aG rfl rfl fun w s=>⟨(),?_,trivial,ai .auto s⟩
   rw[decide_eq_true hn]
theorem I3{W:World}{A:aa}{v u:Value}{xs ys:List Int}(hv:Rd W [A] cO 1 v xs)(hu:Rd W [A] cO 1 u ys)(hl:xs.length≤1000000000):Fn Tryz.prog W 159 [v,u] [A] Unit (fun _=>.bool (decide (xs=ys))) (fun _=>True) (fun _=>[A]):=by
 refine Fn.intro (N:=26) func159 rfl ntmps159 rfl fun F=>?_
 haveI hRI:∀ (H:List aa) [bf H A],aw W H v cO 1 xs:=fun H h=>⟨hv.at h.has⟩
 haveI hRJ:∀ (H:List aa) [bf H A],aw W H u cO 1 ys:=fun H h=>⟨hu.at h.has⟩
 show aq _ _ _ _ _ _ [A,F]
 refine JD 15 (fun h10=>?_) fun h10=>?_
 ·refine J 7 ?_
  refine .aG rfl rfl fun w s=>⟨(),?_,trivial,ai .auto s⟩
  rw[decide_eq_false (fun e=>h10 (by rw[e]))]
 ·refine J 11 ?_
  refine .bn (X:=Nat) [4,5,13,14,15,16,17,18,19,20,21,22,23,24,25] (fun k=>xs.length-k) (fun k=>k≤xs.length∧xs.take k=ys.take k) (fun k=>[(13,some (.int .i64 (k:Int)))]) (fun k=>[A,F]) 0 ?_ ?_ ?_ ?_
  ·exact⟨Nat.zero_le _,rfl⟩
  ·exact⟨rfl,trivial⟩
  ·exact fun w s=>ax.kept .auto w s
  rintro k ⟨hk,hn⟩
  refine JD 6 (fun h14=>?_) fun h14=>?_
  ·refine J 11 ?_
   refine .draw [] [1,1,1,1,1,1,1,1,1] rfl (by kernel_rfl) ?_
   obtain⟨x,hx⟩:=ak (show k<xs.length by omega)
   obtain⟨y,hy⟩:=ak (show k<ys.length by omega)
   refine J 3 ?_
   refine .p (.lr rfl hx) ?_
   refine J 3 ?_
   refine .p (.lr rfl hy) ?_
   refine JD 3 (fun h24=>?_) fun h24=>?_
   ·refine J 11 ?_
    refine .aG rfl rfl fun w s=>⟨(),?_,trivial,ai .auto s⟩
    rw[decide_eq_false (fun e=>h24 (by rw[e] at hx;exact Option.some.inj (hx.symm.trans hy)))]
   ·refine J 7 ?_
    refine .aL (k+1) .auto rfl ?_ ?_ ?_ ?_
    ·first | omega | (dsimp only;omega)
    ·exact⟨by omega,by rw[aX hx,aX hy,hn,Decidable.of_not_not h24]⟩
    ·exact⟨rfl,trivial⟩
    ·exact fun w s=>ax.kept .auto w s
  ·refine J 11 ?_
   obtain rfl:k=xs.length:=by omega
   rw[List.take_length,List.take_of_length_le (by omega)] at hn
   refine .aG rfl rfl fun w s=>⟨(),?_,trivial,ai .auto s⟩
   rw[decide_eq_true hn]
theorem I4{W:World}{A:aa}{v u:Value}{xs ys:List Int}(hv:Rd W [A] au 1 v xs)(hu:Rd W [A] au 1 u ys)(hl:xs.length≤1000000000):Fn Tryz.prog W 161 [v,u] [A] Unit (fun _=>.bool (decide (xs=ys))) (fun _=>True) (fun _=>[A]):=by
 refine Fn.intro (N:=26) func161 rfl ntmps161 rfl fun F=>?_
 haveI hRI:∀ (H:List aa) [bf H A],aw W H v au 1 xs:=fun H h=>⟨hv.at h.has⟩
 haveI hRJ:∀ (H:List aa) [bf H A],aw W H u au 1 ys:=fun H h=>⟨hu.at h.has⟩
 show aq _ _ _ _ _ _ [A,F]
 refine JD 15 (fun h10=>?_) fun h10=>?_
 ·refine J 7 ?_
  refine .aG rfl rfl fun w s=>⟨(),?_,trivial,ai .auto s⟩
  rw[decide_eq_false (fun e=>h10 (by rw[e]))]
 ·refine J 11 ?_
  refine .bn (X:=Nat) [4,5,13,14,15,16,17,18,19,20,21,22,23,24,25] (fun k=>xs.length-k) (fun k=>k≤xs.length∧xs.take k=ys.take k) (fun k=>[(13,some (.int .i64 (k:Int)))]) (fun k=>[A,F]) 0 ?_ ?_ ?_ ?_
  ·exact⟨Nat.zero_le _,rfl⟩
  ·exact⟨rfl,trivial⟩
  ·exact fun w s=>ax.kept .auto w s
  rintro k ⟨hk,hn⟩
  refine JD 6 (fun h14=>?_) fun h14=>?_
  ·refine J 11 ?_
   refine .draw [] [1,1,1,1,1,1,1,1,1] rfl (by kernel_rfl) ?_
   obtain⟨x,hx⟩:=ak (show k<xs.length by omega)
   obtain⟨y,hy⟩:=ak (show k<ys.length by omega)
   refine J 3 ?_
   refine .p (.lr rfl hx) ?_
   refine J 3 ?_
   refine .p (.lr rfl hy) ?_
   refine JD 3 (fun h24=>?_) fun h24=>?_
   ·refine J 11 ?_
    refine .aG rfl rfl fun w s=>⟨(),?_,trivial,ai .auto s⟩
    rw[decide_eq_false (fun e=>h24 (by rw[e] at hx;exact Option.some.inj (hx.symm.trans hy)))]
   ·refine J 7 ?_
    refine .aL (k+1) .auto rfl ?_ ?_ ?_ ?_
    ·first | omega | (dsimp only;omega)
    ·exact⟨by omega,by rw[aX hx,aX hy,hn,Decidable.of_not_not h24]⟩
    ·exact⟨rfl,trivial⟩
    ·exact fun w s=>ax.kept .auto w s
  ·refine J 11 ?_
   obtain rfl:k=xs.length:=by omega
   rw[List.take_length,List.take_of_length_le (by omega)] at hn
   refine .aG rfl rfl fun w s=>⟨(),?_,trivial,ai .auto s⟩
   rw[decide_eq_true hn]
theorem ox{W:World}{A:aa}{v u:Value}{xs ys:List Rec}(hv:Rd W [A] cP 6 v xs)(hu:Rd W [A] cP 6 u ys)(hl:xs.length≤1000000000):Fn Tryz.prog W 56 [v,u] [A] Unit (fun _=>.bool (decide (xs=ys))) (fun _=>True) (fun _=>[A]):=by
 refine Fn.intro (N:=8) func56 rfl ntmps56 rfl fun F=>?_
 show aq _ _ _ _ _ _ [A,F]
 refine J 9 ?_
 refine .c call116 rfl (I2 hv hu hl) fun _ _=>?_
 exact JR 4 ()
theorem lB{W:World}{A:aa}{v:Value}{ps:List aN}(hr:Rd W [A] ed 8 v ps)(hp:∀ p∈ps,eM W [A] p)(hb:ps.length≤1000000000∧ ∀ p∈ps,p.fs.length≤1000000000∧p.bI.length≤1000000000∧p.aZ.length≤1000000000)(hw:∀ p∈ps.map aN.p, ∀ f∈p.funcs, ∀ i∈f,fL i.n){u:Value}{acts:List gw}(ha:Rd W [A] fG 4 u acts)(hal:acts.length≤1000):Fn Tryz.prog W 58 [v,u] [A] (Option Nat) (fun o=>.tuple #[dO o,.int .i64 (ly (ps.map aN.p) acts).1,.int .i64 (ly (ps.map aN.p) acts).2.1]) (fun o=>o.isSome=decide (dV (ps.map aN.p)=0)) (fun o=>[optH (fun b=>cH b (ly (ps.map aN.p) acts).2.2) o,A]):=by
 refine Fn.intro (N:=39) func58 rfl ntmps58 rfl fun F=>?_
 haveI hRI:∀ (H:List aa) [bf H A],aw W H v ed 8 ps:=fun H h=>⟨hr.at h.has⟩
 haveI hRJ:∀ (H:List aa) [bf H A],aw W H u fG 4 acts:=fun H h=>⟨ha.at h.has⟩
 show aq _ _ _ _ _ _ [A,F]
 refine J 10 ?_
 refine .c call117 rfl (KE hr hp hb) fun o ho=>?_
 refine JD 14 (fun h18=>?_) fun h18=>?_
 ·refine J 10 ?_
  obtain rfl:o=none:=by simpa [h18] using ho
  rw[CE h18]
  refine .j5 rfl rfl rfl rfl fun w s=>⟨none,?_,(decide_eq_false h18).symm,ai .auto s⟩
  rfl
 ·have h18:=Decidable.of_not_not h18
  obtain⟨kb,rfl⟩:=Option.isSome_iff_exists.1 (ho.trans (decide_eq_true h18))
  refine .fr (A:=optH (fun b=>cH b ((ps.map aN.p).map Spc.new)) (some kb)) (Bs:=[cH kb ((ps.map aN.p).map Spc.new)]) .auto eV ?_
  have hok:dB 1 ((ps.map aN.p).map Spc.new):=dB.new h18 hw
  rw[mO h18]
  have hz:=pJ h18
  have hl8:((ps.map aN.p).map Spc.new).length≤8:=by rw[List.length_map];exact hz.2.1
  refine J 11 ?_
  refine .bn (X:=Nat×List Spc) [4,5,6,9,10,11,22,23,24,25,26,27,28,29,30,31,32,33,34,35] (fun z=>acts.length-z.1) (fun z=>z.1≤acts.length∧dB (z.1+1) z.2∧z.2.length≤8∧replay ((ps.map aN.p).map Spc.new) acts 0=replay z.2 (acts.drop z.1) z.1) (fun z=>[(22,some (.int .i64 (z.1:Int)))]) (fun z=>[cH kb z.2,A,F]) (0,((ps.map aN.p).map Spc.new)) ?_ ?_ ?_ ?_
  ·exact⟨Nat.zero_le _,hok,hl8,by rw[List.drop_zero]⟩
  ·exact⟨rfl,trivial⟩
  ·exact fun w s=>ax.kept .auto w s
  rintro⟨k,l⟩ ⟨hk,hO,hll,hrp⟩
  simp only at hk hO hll hrp
  refine JD 6 (fun h23=>?_) fun h23=>?_
  ·refine J 7 ?_
   obtain⟨a,hx⟩:=ak (show k<acts.length by omega)
   refine .p (.ix k rfl rfl rfl (by omega)) ?_
   refine .p (.la rfl (Cells.rd Rd.s hx)) ?_
   refine .aj rfl (af.alloc rfl zeroValue42 rfl) ?_
   rintro _ _ ⟨b10,rfl,rfl⟩
   refine J 1 ?_
   refine .aj rfl (af.iJ (vs:=fG a) (by exact sizeOf42) rfl rfl rfl (by rfl)) ?_
   rintro _ _ ⟨rfl,rfl⟩
   refine J 6 ?_
   refine .c call118 rfl (Ms (b:=kb) (l:=l) (a:=a) (by omega) (hO.aO (by omega))) fun _ _=>?_
   refine JD 9 (fun h31=>?_) fun h31=>?_
   ·refine J 16 ?_
    rw[hrp,AT hx h31]
    refine .j5 rfl rfl rfl rfl fun w s=>⟨some kb,?_,(decide_eq_true h18).symm,ai .auto s⟩
    rfl
   ·refine J 7 ?_
    refine .aL (k+1,(oDo l a).2) .auto rfl ?_ ?_ ?_ ?_
    ·show acts.length-(k+1)<acts.length-k;omega
    ·exact⟨by show k+1≤_;omega,hO.act (by omega) a,by rw[Ds];exact hll,by rw[hrp,FJ hx (Decidable.of_not_not h31)]⟩
    ·exact⟨rfl,trivial⟩
    ·exact fun w s=>ax.kept .auto w s
  ·refine J 16 ?_
   rw[hrp,CF (show k=acts.length by omega)]
   refine .j5 rfl rfl rfl rfl fun w s=>⟨some kb,?_,(decide_eq_true h18).symm,ai .auto s⟩
   rw[show(acts.length:Int)=(k:Int) by omega];rfl
theorem yG{W:World}{v:Value}:Fn Tryz.prog W 115 [v,.pointer none] [] Unit (fun _=>.bool false) (fun _=>True) (fun _=>[]):=by
 refine Fn.intro (N:=69) func115 rfl ntmps115 rfl fun F=>?_
 show aq _ _ _ _ _ _ [F]
 refine J 9 ?_
 refine .c call20 rfl w9 fun _ _=>?_
 refine J 11 ?_
 refine .fu rfl ?_
 exact JR 7 ()
theorem yH{W:World}{A:aa}{v:Value}{ps:List aN}(hr:Rd W [A] ed 8 v ps){b kb:Nat}{bl:List Nat}{s:Sy}(hne:ps.length≠s.k.libs.length):Fn Tryz.prog W 115 [v,ptr b] [A,fb b kb bl s] Unit (fun _=>.bool false) (fun _=>True) (fun _=>[A,fb b kb bl s]):=by
 refine Fn.intro (N:=69) func115 rfl ntmps115 rfl fun F=>?_
 haveI hRI:∀ (H:List aa) [bf H A],aw W H v ed 8 ps:=fun H h=>⟨hr.at h.has⟩
 show aq _ _ _ _ _ _ [A,fb b kb bl s,F]
 refine J 9 ?_
 refine .c call20 rfl (fc (b:=b) (kb:=kb) (bl:=bl) (s:=s)) fun _ _=>?_
 refine J 5 ?_
 refine .cg call20 rfl (fc (b:=b) (kb:=kb) (bl:=bl) (s:=s)) fun _ _=>?_
 refine .o2 (C:=fb b kb bl s) .auto rfl ?_
 rintro pv lv -
 refine .cg call105 rfl (jT (b:=kb) (bl:=bl) (k:=s.k)) fun _ _=>?_
 refine JD 4 (fun h20=>?_) fun h20=>?_
 ·exact JR 7 ()
 ·exact absurd (show(ps.length:Int)≠(s.k.libs.length:Int) by omega) h20
theorem yI{W:World}{A:aa}{v:Value}{ps:List aN}(hr:Rd W [A] ed 8 v ps){b kb:Nat}{bl:List Nat}{s:Sy}(hp:∀ p∈ps,eM W [A] p)(hb:ps.length≤1000000000∧ ∀ p∈ps,p.fs.length≤1000000000∧p.bI.length≤1000000000∧p.aZ.length≤1000000000)(hw:∀ p∈ps.map aN.p, ∀ f∈p.funcs, ∀ i∈f,fL i.n)(hc:dV (ps.map aN.p)=0)(hR:CA ((ps.map aN.p).map Spc.new) s)(hll:s.k.libs.length=ps.length){i:Nat}(hI:wF i s)(hi:i≤400):Fn Tryz.prog W 115 [v,ptr b] [A,fb b kb bl s] Unit (fun _=>.bool true) (fun _=>True) (fun _=>[A,fb b kb bl s]):=by
 refine Fn.intro (N:=69) func115 rfl ntmps115 rfl fun F=>?_
 haveI hRI:∀ (H:List aa) [bf H A],aw W H v ed 8 ps:=fun H h=>⟨hr.at h.has⟩
 show aq _ _ _ _ _ _ [A,fb b kb bl s,F]
 have hlog:=hI.log
 have hrn:=hI.rn hi
 have hSO:dB (i+2) (dQ s.k):=fun t ht=>by
  obtain⟨l,hl,rfl⟩:=List.mem_map.1 ht
  exact(hI.k.gY l hl).sp
 have hsl:(dQ s.k).length≤1000000000:=by have:=hI.k.ll;show(s.k.libs.map _).length≤_;rw[List.length_map];omega
 refine J 9 ?_
 refine .c call20 rfl (fc (b:=b) (kb:=kb) (bl:=bl) (s:=s)) fun _ _=>?_
 refine J 5 ?_
 refine .cg call20 rfl (fc (b:=b) (kb:=kb) (bl:=bl) (s:=s)) fun _ _=>?_
 refine .o2 (C:=fb b kb bl s) .auto rfl ?_
 rintro pv lv -
 refine .cg call105 rfl (jT (b:=kb) (bl:=bl) (k:=s.k)) fun _ _=>?_
 refine JD 4 (fun h20=>?_) fun h20=>?_
 ·exact absurd (show(ps.length:Int)=(s.k.libs.length:Int) by omega) h20
 ·refine J 6 ?_
  refine .c call17 rfl (DI (b:=b) (kb:=kb) (bl:=bl) (s:=s) (by omega)) fun u24 _=>?_
  refine .c call58 rfl (lB (A:=seps [A,sl fG 4 u24 s.log]) (acts:=s.log) (Rd.ez (hr.at .here)) (fun p hpp=>((hp p hpp).at .here).ez) hb hw (Rd.ez (Rd.sl (.there .here))) (by omega)) fun o ho=>?_
  refine .dq .auto ?_
  have hcut:=hR.cut (n:=s.log.length)
  rw[List.take_length,hR.run] at hcut
  rw[mO hc,hcut]
  obtain⟨ob,rfl⟩:=Option.isSome_iff_exists.1 (ho.trans (decide_eq_true hc))
  refine .fr (A:=optH (fun b=>cH b (dQ s.k)) (some ob)) (Bs:=[cH ob (dQ s.k)]) .auto eV ?_
  refine JD 16 (fun h30=>?_) fun h30=>?_
  ·exact absurd rfl h30
  ·refine J 11 ?_
   refine .bn (X:=Nat) [4,8,9,33,34,35,36,37,38,39,40,41,42,43,44,45,46,47,48,49,50,51,52,53,54,55,56,57,58,59,60,61,62,63,64,65,66,67,68] (fun n=>ps.length-n) (fun n=>n≤ps.length) (fun n=>[(33,some (.int .i64 (n:Int)))]) (fun n=>[cH ob (dQ s.k),fb b kb bl s,A,F]) 0 ?_ ?_ ?_ ?_
   ·exact Nat.zero_le _
   ·exact⟨rfl,trivial⟩
   ·exact fun w s=>ax.kept .auto w s
   rintro n hn
   refine JD 6 (fun h34=>?_) fun h34=>?_
   ·obtain⟨l,hl⟩:=ak (show n<s.k.libs.length by omega)
    have hlm:=List.mem_of_getElem? hl
    have hlo:=hI.k.ok.gY l hlm
    have hrd:=CD hl
    have hrx:=xf (s:=s) (n:Int)
    have hrl:=Ku hrn (n:Int)
    have hrdl:(oReady (dQ s.k) (n:Int)).length≤1000000000:=hSO.ready _
    refine J 13 ?_
    refine .c call20 rfl (fc (b:=b) (kb:=kb) (bl:=bl) (s:=s)) fun _ _=>?_
    refine .o2 (C:=fb b kb bl s) .auto rfl ?_
    rintro pv lv -
    refine J 1 ?_
    refine .c call48 rfl (gS (b:=kb) (bl:=bl) (k:=s.k) (n:=(n:Int))) fun _ _=>?_
    refine .o3 (C:=bS kb bl s.k) .auto rfl ?_
    rintro vo vl xl ⟨hxb,hxs⟩
    have hxl:=aE hxs
    have hbl:=aE hxb
    have hxx:=And.intro hxb hxs
    obtain⟨x,hx,hxe,hbx⟩:=eX hxb hxs hl
    rw[bb,hbx]
    subst hxe
    refine .fr .auto (c0 (f:=fun x:Nat×Lib=>df x.1 x.2) hx) ?_
    refine .o2 (C:=df x.1 x.2) .auto rfl ?_
    rintro bs br -
    refine .c call49 rfl (jj (b:=x.1) (bs:=bs) (br:=br) (l:=x.2)) fun _ _=>?_
    refine .o2 (C:=bJ x.1 bs br x.2) .auto rfl ?_
    rintro vv vw -
    refine .o1 (C:=ca bs x.2.aO) .auto rfl ?_
    rintro pt -
    refine .c call44 rfl (lh (s:=x.2.aO) hlo.th) fun u41 _=>?_
    refine .to (A:=aD (fun x:Nat×Lib=>df x.1 x.2) xl) .auto (eW (f:=fun x:Nat×Lib=>df x.1 x.2) hx) ?_
    refine .to (A:=bS kb bl s.k) .auto HC ?_
    refine J 7 ?_
    refine .c call59 rfl (mN (b:=ob) (l:=dQ s.k) (n:=(n:Int)) hsl (hSO.aO (by omega))) fun u44 _=>?_
    rw[hrx.1]
    refine J 2 ?_
    refine .c call23 rfl (rE (b:=b) (kb:=kb) (bl:=bl) (s:=s) (n:=(n:Int)) hrn) fun u47 _=>?_
    refine .c call56 rfl (ox (A:=seps [sl cP 6 u44 (s.av (n:Int)),sl cP 6 u47 (s.av (n:Int))]) (Rd.ez (Rd.sl .here)) (Rd.ez (Rd.sl (.there .here))) hrl.1) fun _ _=>?_
    rw[decide_eq_true (rfl:(s.av (n:Int))=(s.av (n:Int)))]
    refine J 4 ?_
    refine .cg call160 rfl (Cz (b:=ob) (l:=dQ s.k) (n:=(n:Int)) hsl (hSO.aO (by omega))) fun u53 _=>?_
    rw[hrx.2]
    refine J 2 ?_
    refine .cg call25 rfl (Cq (b:=b) (kb:=kb) (bl:=bl) (s:=s) (n:=(n:Int)) hrn) fun u56 _=>?_
    refine .cg call159 rfl (I3 (A:=seps [sl cO 1 u53 (s.mem (n:Int)),sl cO 1 u56 (s.mem (n:Int))]) (Rd.ez (Rd.sl .here)) (Rd.ez (Rd.sl (.there .here))) hrl.2) fun _ _=>?_
    rw[decide_eq_true (rfl:(s.mem (n:Int))=(s.mem (n:Int)))]
    refine J 5 ?_
    refine .cg call162 rfl (FI (b:=ob) (l:=dQ s.k) (n:=(n:Int)) hsl (hSO.aO (by omega))) fun u63 _=>?_
    rw[hrd]
    refine J 1 ?_
    refine .cg call161 rfl (I4 (A:=seps [sl au 1 u63 x.2.aO.ready,sl au 1 u41 x.2.aO.ready]) (Rd.ez (Rd.sl .here)) (Rd.ez (Rd.sl (.there .here))) (by rw[← hrd];exact hrdl)) fun _ _=>?_
    rw[decide_eq_true (rfl:x.2.aO.ready=x.2.aO.ready)]
    refine JD 4 (fun h67=>?_) fun h67=>?_
    ·cases h67
    ·refine J 7 ?_
     refine .aL (n+1) .auto rfl ?_ ?_ ?_ ?_
     ·omega
     ·show n+1≤_;omega
     ·exact⟨rfl,trivial⟩
     ·exact fun w s=>ax.kept .auto w s
   ·exact JR 11 ()
theorem mP{W:World}  : Fn Tryz.prog W 55 [] [] Unit (fun _=>.bool true) (fun _=>True) (fun _=>[]):=by
 refine Fn.intro (N:=66) func55 rfl ntmps55 rfl fun F=>?_
 show aq _ _ _ _ _ _ [F]
 have hl1:((eO FL.2.2 0).length:Int)=1:=by rw[Oa];rfl
 have hlb:FL.2.2.length≤1000000000:=by rw[Ob];decide
 refine J 7 ?_
 refine .p (.xk (fun v1 v2 v3=>[v1,v2,(.int .i64 0),(.int .i64 0),v3]) rfl rfl rfl (by kernel_rfl)) ?_
 refine .p (.gr (fun v1 v2=>[v1,v2,(.int .i64 0),(.int .i64 0),(.int .u64 0)]) rfl rfl (by kernel_rfl)) ?_
 refine .aj rfl (af.gI 112 rfl rfl (by kernel_rfl)) ?_
 rintro _ _ ⟨b9,rfl,rfl⟩
 refine .aj rfl (af.gI 113 rfl rfl (by kernel_rfl)) ?_
 rintro _ _ ⟨b10,rfl,rfl⟩
 refine .p (.hG (fun _=>ed (nm b9 b10)) rfl (by kernel_rfl)) ?_
 refine .aj rfl (af.alloc rfl zeroValue56 rfl) ?_
 rintro _ _ ⟨b1,rfl,rfl⟩
 refine J 6 ?_
 refine .aj rfl (af.gI 56 rfl rfl (by kernel_rfl)) ?_
 rintro _ _ ⟨b14,rfl,rfl⟩
 refine .p (.hG (fun v1=>[v1,(.int .i64 0),(.int .i64 0),(.int .i64 0)]) rfl (by kernel_rfl)) ?_
 refine .p (.hG (fun v1=>[v1,(.int .i64 0),(.int .i64 0),(.int .i64 0)]) rfl (by kernel_rfl)) ?_
 refine .p (.hG (fun v1=>[v1,(.int .i64 0),(.int .i64 0),(.int .i64 0)]) rfl (by kernel_rfl)) ?_
 refine .aj rfl (af.gI 42 rfl rfl (by kernel_rfl)) ?_
 rintro _ _ ⟨b18,rfl,rfl⟩
 refine .c call58 rfl (lB (A:=seps [arr b14 0 (ed (nm b9 b10)),arr b10 0 [.slice (some ⟨b9,0,none⟩) 2 2],arr b9 0 (rows dH I7),arr b18 0 (rows fG Nl)]) (v:=wb b14 1) (ps:=[nm b9 b10]) (u:=.slice (some ⟨b18,0,none⟩) 3 3) (acts:=Nl) (Rd.ez (Rd.lit .here rfl (fun _ _=>rfl) rfl)) (fun p hp=>(yF (.there .here) (.there (.there .here)) p hp).ez) Cp Kw (Rd.ez (Rd.lit (.there (.there (.there .here))) rfl (fun _ _=>rfl) rfl)) (by decide)) fun o ho=>?_
 rw[show ly ([nm b9 b10].map aN.p) Nl=FL from rfl,OS,N9]
 obtain⟨ob,rfl⟩:=Option.isSome_iff_exists.1 (ho.trans (decide_eq_true N8))
 refine .fr (A:=optH (fun b=>cH b FL.2.2) (some ob)) (Bs:=[cH ob FL.2.2]) .auto eV ?_
 refine .dq .auto ?_
 refine J 12 ?_
 refine .aj rfl (af.gI 56 rfl rfl (by kernel_rfl)) ?_
 rintro _ _ ⟨b25,rfl,rfl⟩
 refine .c call14 rfl (mI (A:=seps [arr b25 0 (ed (nm b9 b10)),arr b10 0 [.slice (some ⟨b9,0,none⟩) 2 2],arr b9 0 (rows dH I7)]) (v:=wb b25 1) (ps:=[nm b9 b10]) (procs:=2) (Rd.ez (Rd.lit .here rfl (fun _ _=>rfl) rfl)) (fun p hp=>(yF (.there .here) (.there (.there .here)) p hp).ez) Cp) fun o2 ho2=>?_
 rw[show[nm b9 b10].map aN.p=[DK] from rfl,N6] at ho2 ⊢
 obtain⟨sb,rfl⟩:=Option.isSome_iff_exists.1 ho2
 refine .fr (A:=optH (fun b=>AX b (Sy.new 2 [DK])) (some sb)) (Bs:=[AX sb (Mj 0)]) .auto eV ?_
 refine .o2 (C:=AX sb (Mj 0)) .auto rfl ?_
 rintro kb bl -
 refine .dq .auto ?_
 refine J 21 ?_
 refine .cg call59 rfl (mN (b:=ob) (l:=FL.2.2) (n:=0) hlb (OT.aO (by decide))) fun u41 _=>?_
 refine .g (.fq (Y.FV underlying44 rfl Rd.s) hl1) ?_
 refine J 8 ?_
 refine .dg rfl rfl rfl (af.gI 56 rfl rfl (by kernel_rfl)) ?_
 rintro _ _ ⟨b51,rfl,rfl⟩
 refine J 1 ?_
 refine .cg call115 rfl (yI (A:=seps [arr b51 0 (ed (nm b9 b10)),arr b10 0 [.slice (some ⟨b9,0,none⟩) 2 2],arr b9 0 (rows dH I7)]) (v:=wb b51 1) (ps:=[nm b9 b10]) (b:=sb) (kb:=kb) (bl:=bl) (s:=Mj 0) (i:=0) (Rd.ez (Rd.lit .here rfl (fun _ _=>rfl) rfl)) (fun p hp=>(yF (.there .here) (.there (.there .here)) p hp).ez) Cp Kw N8 (CA.new N6) DT (i19 0 (by decide)) (by decide)) fun _ _=>?_
 refine J 3 ?_
 refine .cg call115 rfl (yH (A:=emp) (v:=.slice none 0 0) (ps:=[]) (b:=sb) (kb:=kb) (bl:=bl) (s:=Mj 0) Rd.nil (by rw[DT];decide)) fun _ _=>?_
 refine J 4 ?_
 refine .dg rfl rfl rfl (af.gI 56 rfl rfl (by kernel_rfl)) ?_
 rintro _ _ ⟨b62,rfl,rfl⟩
 refine .cg call115 rfl yG fun _ _=>?_
 exact JR 6 ()
theorem CG{W:World}{A:aa}{v u:Value}{xs ys:List Rec}(hv:Rd W [A] cP 6 v xs)(hu:Rd W [A] cP 6 u ys)(hl:xs.length≤1000000000):Fn Tryz.prog W 12 [v,u] [A] Unit (fun _=>.bool true) (fun _=>True) (fun _=>[A]):=by
 refine Fn.intro (N:=15) func12 rfl ntmps12 rfl fun F=>?_
 show aq _ _ _ _ _ _ [A,F]
 refine J 7 ?_
 refine .c call55 rfl mP fun _ _=>?_
 refine J 3 ?_
 refine .cg call56 rfl (ox hv hu hl) fun _ _=>?_
 refine J 2 ?_
 refine .cg call22 rfl (IH hv hu hl) fun _ _=>?_
 refine .g (.K8 underlying4 rfl rfl) ?_
 refine J 5 ?_
 refine .aG rfl rfl fun w s=>⟨(),?_,trivial,ai .auto s⟩
 exact congrArg (fun b=>Ending.returned (.bool b)) (by simp)
theorem AU{W:World}{A:aa}{v:Value}{xs:List uf}(hr:Rd W [A] mB 3 v xs)(hl:xs.length≤1000000000):Fn Tryz.prog W 57 [v] [A] Value (fun u=>u) (fun u=>Rd W [A] mB 3 u (xs.take 250)) (fun _=>[A]):=by
 refine Fn.intro (N:=9) func57 rfl ntmps57 rfl fun F=>?_
 haveI hRI:∀ (H:List aa) [bf H A],aw W H v mB 3 xs:=fun H h=>⟨hr.at h.has⟩
 show aq _ _ _ _ _ _ [A,F]
 refine JD 13 (fun h5=>?_) fun h5=>?_
 ·refine J 3 ?_
  refine .p (.sliceTo 250 underlying23 sizeOf34 rfl rfl Rd.s rfl (by omega)) ?_
  refine J 5 ?_
  refine .aG rfl rfl fun w s=>⟨_,?_,Rd.DJ (n:=250) (by omega) hr,ai .auto s⟩
  rfl
 ·refine J 9 ?_
  refine .aG rfl rfl fun w s=>⟨_,?_,by rw[List.take_of_length_le (by omega)];exact hr,ai .auto s⟩
  rfl
theorem AV{W:World}{A:aa}{v:Value}{ps:List aN}(hr:Rd W [A] ed 8 v ps)(hp:∀ p∈ps,eM W [A] p)(hb:ps.length≤1000000000∧ ∀ p∈ps,p.fs.length≤1000000000∧p.bI.length≤1000000000∧p.aZ.length≤1000000000)(hw:∀ p∈ps.map aN.p, ∀ f∈p.funcs, ∀ i∈f,fL i.n){np:Int}{u:Value}{xs:List uf}(hst:Rd W [A] mB 3 u xs)(hsl:xs.length≤1000000000)(hnp:0≤np∧np≤255){cu:Int}(hcu:0≤cu∧cu≤255):Fn Tryz.prog W 13 [.int .u8 np,v,u,.int .u8 cu] [A] Unit (fun _=>.bool true) (fun _=>True) (fun _=>[A]):=by
 refine Fn.intro (N:=101) func13 rfl ntmps13 rfl fun F=>?_
 haveI hRI:∀ (H:List aa) [bf H A],aw W H v ed 8 ps:=fun H h=>⟨hr.at h.has⟩
 haveI hRJ:∀ (H:List aa) [bf H A],aw W H u mB 3 xs:=fun H h=>⟨hst.at h.has⟩
 show aq _ _ _ _ _ _ [A,F]
 obtain⟨mk,mkd⟩:∃ mk,mk=np.toNat % (9):=⟨_,rfl⟩
 have mkl:mk<9:=by rw[mkd];exact Nat.mod_lt _ (by decide)
 have mkt:np.tmod (9)=(mk:Int):=by
  obtain⟨m,rfl⟩:∃ m:Nat,np=(m:Int):=⟨np.toNat,by omega⟩
  rw[mkd,Int.toNat_natCast];exact(Int.ofNat_tmod m (9)).symm
 refine J 8 ?_
 refine .p (.fq (Y.rem rfl rfl (by omega)) mkt) ?_
 refine .p (.gW underlying5 underlying3 rfl (by omega)) ?_
 refine .p (.add rfl rfl (by omega)) ?_
 refine J 1 ?_
 refine .c call14 rfl (mI (procs:=(mk:Int)+1) hr hp hb) fun o ho=>?_
 refine JD 14 (fun h30=>?_) fun h30=>?_
 ·refine J 2 ?_
  refine .c call55 rfl mP fun _ _=>?_
  exact JR 5 ()
 ·have hc:ec ((mk:Int)+1) (ps.map aN.p)=0:=Decidable.not_not.mp h30
  obtain⟨sb,rfl⟩:=Option.isSome_iff_exists.1 (ho.trans (decide_eq_true hc))
  refine .fr (A:=optH (fun b=>AX b (Sy.new ((mk:Int)+1) (ps.map aN.p))) (some sb)) (Bs:=[AX sb (Sy.new ((mk:Int)+1) (ps.map aN.p))]) .auto eV ?_
  refine .o2 (C:=AX sb (Sy.new ((mk:Int)+1) (ps.map aN.p))) .auto rfl ?_
  rintro kb bl -
  have hP0:=DQ.new hc hw
  have hI0:=hP0.b
  have hni:=iW hc
  have hkl0:(Sy.new ((mk:Int)+1) (ps.map aN.p)).k.libs.length=ps.length:=((fF (iW hc).1 _ _).2.ll.trans hni.2.1).trans (List.length_map ..)
  have h250:(xs.take 250).length≤250:=List.length_take_le ..
  have hc1:=CC hc
  have hR0:=CA.new hc
  have hO0:dB 1 ((ps.map aN.p).map Spc.new):=dB.new hc1 hw
  refine J 5 ?_
  refine .c call57 rfl (AU hst hsl) fun u33 hsm=>?_
  haveI hRK:∀ (H:List aa) [bf H A],aw W H u33 mB 3 (xs.take 250):=fun H h=>⟨hsm.at h.has⟩
  refine J 10 ?_
  refine .bn (X:=Nat×Sy) [11,34,35,36,37,38,39,40,41,42,43,44,45] (fun z=>(xs.take 250).length-z.1) (fun z=>z.1≤(xs.take 250).length∧DQ z.1 z.2∧CA ((ps.map aN.p).map Spc.new) z.2) (fun z=>[(11,some (.int .i64 (z.1:Int)))]) (fun z=>[fb sb kb bl z.2,A,F]) (0,(Sy.new ((mk:Int)+1) (ps.map aN.p))) ?_ ?_ ?_ ?_
  ·exact⟨Nat.zero_le _,hP0,hR0⟩
  ·exact⟨rfl,trivial⟩
  ·exact fun w s=>ax.kept .auto w s
  rintro⟨i,s⟩ ⟨hi,hP,hR⟩
  simp only at hi hP hR
  have hI:=hP.b
  have hlog:=hI.log
  refine JD 9 (fun h37=>?_) fun h37=>?_
  ·refine J 8 ?_
   obtain⟨x,hx⟩:=ak (show i<(xs.take 250).length by omega)
   refine .p (.ix i rfl rfl rfl (by omega)) ?_
   refine .p (.la rfl (Cells.rd Rd.s hx)) ?_
   refine .c call18 rfl (yy (b:=sb) (kb:=kb) (bl:=bl) (s:=s) (x:=x) (hI.rn (by omega)) hI.k.inv (by omega) (by have:=hI.log;omega) (Nat.le_trans hI.prio (by decide))) fun _ _=>?_
   refine J 8 ?_
   refine .aL (i+1,(s.do x).2) .auto rfl ?_ ?_ ?_ ?_
   ·show(xs.take 250).length-(i+1)<(xs.take 250).length-i;omega
   ·exact⟨by show i+1≤_;omega,hP.do (by omega) x,hR.do hP (by omega) x⟩
   ·exact⟨rfl,trivial⟩
   ·exact fun w s=>ax.kept .auto w s
  ·refine J 8 ?_
   refine .c call17 rfl (DI (b:=sb) (kb:=kb) (bl:=bl) (s:=s) (by omega)) fun u47 _=>?_
   obtain⟨n,nd⟩:∃ n,n=cu.toNat % (s.log.length+1):=⟨_,rfl⟩
   have nl:n<s.log.length+1:=by rw[nd];exact Nat.mod_lt _ (by omega)
   have nt:cu.tmod ((s.log.length:Int)+1)=(n:Int):=by
    obtain⟨m,rfl⟩:∃ m:Nat,cu=(m:Int):=⟨cu.toNat,by omega⟩
    rw[nd,Int.toNat_natCast];exact(Int.ofNat_tmod m (s.log.length+1)).symm
   have hlt:(s.log.take n).length=n:=by rw[List.length_take];omega
   have hOn:=CA.OR (s:=s) hO0 (by omega) n
   refine J 6 ?_
   refine .p (.gW underlying5 underlying3 rfl (by omega)) ?_
   refine J 2 ?_
   refine .p (.add rfl rfl (by omega)) ?_
   refine .p (.fq (Y.rem rfl rfl (by omega)) nt) ?_
   refine J 8 ?_
   refine .p (.sliceTo n underlying30 sizeOf42 rfl rfl Rd.s rfl (by omega)) ?_
   refine .c call58 rfl (lB (A:=seps [A,sl fG 4 u47 s.log]) (acts:=s.log.take n) (Rd.ez (hr.at .here)) (fun p hpp=>((hp p hpp).at .here).ez) hb hw (Rd.ez (Rd.DJ (by omega) (Rd.sl (.there .here)))) (by omega)) fun o2 ho2=>?_
   refine .dq .auto ?_
   rw[mO hc1,hR.cut,hlt]
   obtain⟨ob,rfl⟩:=Option.isSome_iff_exists.1 (ho2.trans (decide_eq_true hc1))
   refine .fr (A:=optH (fun b=>cH b (fg ((ps.map aN.p).map Spc.new) (s.log.take n))) (some ob)) (Bs:=[cH ob (fg ((ps.map aN.p).map Spc.new) (s.log.take n))]) .auto eV ?_
   refine J 15 ?_
   apply aS.gf 4 69 65 [65,66,67,68,69] rfl
   ·intro h65
    exact JS 5
   ·intro h65
    exact JS 5
   refine J 1 ?_
   apply aS.gf 3 73 70 [70,71,72,73] rfl
   ·intro h70
    exact JS 4
   ·intro h70
    exact JS 4
   refine JD 2 (fun h73=>?_) fun h73=>?_
   ·simp at h73
   ·refine J 9 ?_
    refine .bn (X:=Nat) [8,17,18,19,74,75,76,77,78,79,80,81,82,83,84,85,86,87,88,89,90,91,92,93,94,95,96,97,98,99] (fun k=>ps.length-k) (fun k=>k≤ps.length) (fun k=>[(17,some (.int .i64 (k:Int)))]) (fun k=>[cH ob (fg ((ps.map aN.p).map Spc.new) (s.log.take n)),fb sb kb bl s,A,F]) 0 ?_ ?_ ?_ ?_
    ·exact Nat.zero_le _
    ·exact⟨rfl,trivial⟩
    ·exact fun w s=>ax.kept .auto w s
    rintro k hk
    refine JD 9 (fun h77=>?_) fun h77=>?_
    ·have hpx0:=hR.px hO0 (by omega) n (k:Int)
     rw[(xf (s:=s) (k:Int)).1] at hpx0
     have hpx:=KG hpx0
     have hal:=hOn.av (by decide) (k:Int)
     refine J 8 ?_
     refine .c call59 rfl (mN (b:=ob) (l:=(fg ((ps.map aN.p).map Spc.new) (s.log.take n))) (n:=(k:Int)) (by rw[AB,List.length_map];omega) (hOn.aO (by decide))) fun u82 _=>?_
     refine J 2 ?_
     refine .c call23 rfl (rE (b:=sb) (kb:=kb) (bl:=bl) (s:=s) (n:=(k:Int)) (hI.rn (by omega))) fun u85 _=>?_
     refine J 12 ?_
     refine .ns (t:=91) rfl (fun h91=>?_) (fun h91=>?_)
     ·exact absurd h91 (by have:=hpx.1;omega)
     ·refine J 4 ?_
      have hle:=hpx.1
      refine .g (.sliceTo (eO (fg ((ps.map aN.p).map Spc.new) (s.log.take n)) (k:Int)).length underlying44 sizeOf115 rfl rfl Rd.s rfl hpx.1) ?_
      refine .cg call56 rfl (ox (A:=seps [sl cP 6 u82 (eO (fg ((ps.map aN.p).map Spc.new) (s.log.take n)) (k:Int)),sl cP 6 u85 (s.av (k:Int))]) (xs:=(eO (fg ((ps.map aN.p).map Spc.new) (s.log.take n)) (k:Int))) (ys:=(s.av (k:Int)).take (eO (fg ((ps.map aN.p).map Spc.new) (s.log.take n)) (k:Int)).length) (Rd.ez (Rd.sl .here)) (Rd.ez (Rd.DJ hpx.1 (Rd.sl (.there .here)))) (by omega)) fun _ _=>?_
      rw[decide_eq_true hpx.2.symm]
      refine JD 4 (fun h99=>?_) fun h99=>?_
      ·cases h99
      ·refine J 8 ?_
       refine .aL (k+1) .auto rfl ?_ ?_ ?_ ?_
       ·omega
       ·show k+1≤_;omega
       ·exact⟨rfl,trivial⟩
       ·exact fun w s=>ax.kept .auto w s
    ·refine J 7 ?_
     refine .c call55 rfl mP fun _ _=>?_
     exact JR 4 ()
end Go.SLYthlllpngkljgfaaGreat
