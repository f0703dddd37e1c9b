/- Walks. Conditions: none. -/
import Derived.Test.YtpbjdoplfgeliaaGreatU20
import Derived.Test.YtpbjdoplfgeliaaGreatU04
namespace Go.SLYtpbjdoplfgeliaaGreat
open Go Go.RowKit
def Sy.ec(s:Sy)(xs:List oo):Sy:=xs.foldl (fun s x=>(s.do x).2) s
theorem kr{s:Sy}{xs:List oo}{k:Nat}{x:oo}(h:xs[k]?=some x):s.ec (xs.take (k+1))=((s.ec (xs.take k)).do x).2:=by
 unfold Sy.ec;rw[aW h,List.foldl_append];rfl
theorem vD.ec{s:Sy}(h:vD 0 s){xs:List oo}(hx:xs.length≤400):∀ k,k≤xs.length→vD k (s.ec (xs.take k))
 | 0,_=>h
 | k+1,hk=>by
  obtain⟨x,hxk⟩:=ai (show k<xs.length by omega)
  rw[kr hxk]
  exact(h.ec hx k (by omega)).do (by omega) x
theorem Ea.ec{l0:List Spc}{s:Sy}(h:vD 0 s)(hr:Ea l0 s){xs:List oo}(hx:xs.length≤400):∀ k,k≤xs.length→Ea l0 (s.ec (xs.take k))
 | 0,_=>hr
 | k+1,hk=>by
  obtain⟨x,hxk⟩:=ai (show k<xs.length by omega)
  rw[kr hxk]
  exact(hr.ec h hx k (by omega)).do (h.ec hx k (by omega)) (by omega) x
theorem sm{s:Sy}(h:vD 0 s){xs:List oo}(hx:xs.length≤400):∀ k,k≤xs.length→(s.ec (xs.take k)).k.libs.length=s.k.libs.length
 | 0,_=>rfl
 | k+1,hk=>by
  obtain⟨x,hxk⟩:=ai (show k<xs.length by omega)
  rw[kr hxk]
  exact(zl (h.ec hx k (by omega)).b.k.inv x).trans (sm h hx k (by omega))
/-! does nothing go on? -/
def MY(l:Lib)(t:Int):Bool:=(l.aI.at t).isSome && (decide (((l.aI.at t).getD Ho).cS=5) || decide (((l.aI.at t).getD Ho).cS=8))
def qI(l:Lib):Nat→Bool
 | 0=>true
 | t+1=>qI l t && !MY l (t:Int)
def quiet(l:Lib):Bool:=decide (l.aI.ready.length=0) && qI l 16
def F3(s:Sy)(n:Nat):Bool:=(s.k.libs.take n).all quiet
theorem NY{l:Lib}{t m:Nat}(h:qI l t=false)(hm:t≤m):qI l m=false:=by
 induction m with
 | zero=>rw[show t=0 by omega] at h;exact h
 | succ m ih =>
  by_cases e:t=m+1
  ·rw[e] at h;exact h
  ·rw[qI,ih (by omega)];rfl
theorem C3{s:Sy}{n:Nat}{l:Lib}(h:s.k.libs[n]?=some l):F3 s (n+1)=(F3 s n && quiet l):=by
 unfold F3;rw[aW h,List.all_append];simp
theorem Jm{s:Sy}{n m:Nat}(h:F3 s n=false)(hm:n≤m):F3 s m=false:=by
 unfold F3 at *
 rw[List.all_eq_false] at *
 obtain⟨x,hx,hq⟩:=h
 have:s.k.libs.take n=(s.k.libs.take m).take n:=by rw[List.take_take,Nat.min_eq_left hm]
 rw[this] at hx
 exact⟨x,List.mem_of_mem_take hx,hq⟩
theorem K5{l:Lib}{t:Nat}(h:qI l t=true)(hs:MY l (t:Int)=false):qI l (t+1)=true:=by rw[qI,h,hs];rfl
theorem Jn{l:Lib}{t:Nat}(h:qI l t=true)(hs:MY l (t:Int)=true)(ht:t<16):quiet l=false:=by
 unfold quiet
 rw[NY (t:=t+1) (by rw[qI,h,hs];rfl) (by omega),Bool.and_false]
theorem FY{l:Lib}(h:l.aI.ready.length=0)(hq:qI l 16=true):quiet l=true:=by
 unfold quiet;rw[decide_eq_true h,hq];rfl
/-! a round -/
def Sy.tP(s:Sy)(c:Int):Nat→Sy
 | 0=>s
 | p+1=>((s.tP c p).do ⟨1,(p:Int),c⟩).2
def Sy.tJ(s:Sy)(k:Int)(P:Nat):Nat→Sy
 | 0=>s
 | j+1=>(s.tJ k P j).tP (k+(j:Int)) P
def Sy.tN(s:Sy)(k:Int):Nat→Sy
 | 0=>s
 | n+1=>((s.tN k n).do ⟨3,(n:Int),k⟩).2
def Sy.tS(s:Sy)(k:Int):Sy:=((s.do ⟨5,k,0⟩).2.do ⟨6,0,0⟩).2
def Sy.PF(s:Sy)(k:Int)(P n:Nat):Sy:=((((s.tS k).tJ k P 40).tN k n).do ⟨2,0,0⟩).2
structure Bt(i P n:Nat)(s:Sy):Prop where
 b:zq i s
 o:s.k.owner.length=P
 l:s.k.libs.length=n
theorem Bt.do{i P n:Nat}{s:Sy}(h:Bt i P n s)(hi:i≤400)(x:oo):Bt (i+1) P n (s.do x).2:=⟨h.b.do hi x,(Jl h.b.k.inv x).trans h.o,(zl h.b.k.inv x).trans h.l⟩
theorem Bt.tP{i P n:Nat}{s:Sy}(h:Bt i P n s)(c:Int):∀ p,i+p≤400→Bt (i+p) P n (s.tP c p)
 | 0,_=>h
 | p+1,hp=>(h.tP c p (by omega)).do (by omega) _
theorem Bt.tJ{i P n:Nat}{s:Sy}(h:Bt i P n s)(k:Int):∀ j,i+P * j≤400→Bt (i+P * j) P n (s.tJ k P j)
 | 0,_=>h
 | j+1,hj=>by
  rw[Nat.mul_succ] at hj ⊢
  exact Nat.add_assoc .. ▸ (h.tJ k j (by omega)).tP _ P (by omega)
theorem Bt.tN{i P n:Nat}{s:Sy}(h:Bt i P n s)(k:Int):∀ m,i+m≤400→Bt (i+m) P n (s.tN k m)
 | 0,_=>h
 | m+1,hm=>(h.tN k m (by omega)).do (by omega) _
/-! the fixed system -/
def MZ:List Ins:=[⟨1,1,0,0,7⟩,⟨38,1,0,0,0⟩]
def Lu:gn:=⟨[MZ],0,0,0,[],[],0,0⟩
def mo(x y:Nat):bc:=⟨zp y 1,[(.slice (some ⟨x,0,none⟩) 2 2,MZ)],0,0,0,.slice none 0 0,[],.slice none 0 0,[],0,0⟩
def MW(x y z:Nat):aa:=seps [arr z 0 (eT (mo x y)),arr y 0 [.slice (some ⟨x,0,none⟩) 2 2],arr x 0 (rows dM MZ)]
theorem FZ{W:World}{x y z:Nat}:Rd W [MW x y z] eT 8 (zp z 1) [mo x y]:=Rd.eX (Rd.lit .here rfl (fun _ _=>rfl) rfl)
theorem Jo{W:World}{x y z:Nat}:∀ p∈ [mo x y],eY W [MW x y z] p:=fun p hp=>by
 have e:p=mo x y:=by simpa using hp
 subst e
 refine⟨Rd.eX (Rd.lit (.there .here) rfl (fun _ _=>rfl) rfl),fun q hq=>?_,Rd.nil,Rd.nil⟩
 rw[show(mo x y).fs=[(.slice (some ⟨x,0,none⟩) 2 2,MZ)] from rfl,List.mem_singleton] at hq
 subst hq
 exact Rd.eX (Rd.lit (.there (.there .here)) rfl (fun _ _=>rfl) rfl)
theorem K6{x y:Nat}:[mo x y].length≤1000000000∧ ∀ p∈ [mo x y],p.fs.length≤1000000000∧p.bK.length≤1000000000∧p.bf.length≤1000000000:=⟨by show 1≤_;decide,fun p hp=>by
 have e:p=mo x y:=by simpa using hp
 subst e
 exact⟨by show 1≤_;decide,by show 0≤_;decide,by show 0≤_;decide⟩⟩
theorem NZ:dF 2 [Lu]=0:=by decide +kernel
theorem Lv:∀ p∈ [Lu], ∀ f∈p.funcs, ∀ i∈f,fK i.n:=fun p hp f hf i hi=>by
 have e:p=Lu:=by simpa using hp
 subst e
 have:f=MZ:=by simpa [Lu] using hf
 subst this
 have:i=⟨1,1,0,0,7⟩∨i=⟨38,1,0,0,0⟩:=by simpa [MZ] using hi
 rcases this with rfl | rfl <;> unfold fK <;> decide
def vI:Sy:=Sy.new 2 [Lu]
def z24:Sy:=vI.PF 0 2 1
theorem K7:Bt 0 2 1 vI:=⟨zq.new NZ Lv,by decide +kernel,by decide +kernel⟩
theorem OY:zq 84 vI:=⟨K7.b.k.le (by decide) (by decide),Nat.le_trans K7.b.log (by decide),K7.b.prio⟩
theorem N0:Bt 84 2 1 z24:=(((((K7.do (by decide) ⟨5,0,0⟩).do (by decide) ⟨6,0,0⟩).tJ 0 40 (by decide)).tN 0 1 (by decide)).do (by decide) ⟨2,0,0⟩)
theorem PG:F3 vI 1=false:=by decide +kernel
theorem OZ:F3 z24 1=true:=by decide +kernel
theorem N1:(z24.aA 0).length=2:=by decide +kernel
theorem O0:∃ r:Rec,(z24.aA 0)[0]?=some r∧r.x=7:=by
 have h:((z24.aA 0)[0]?).map (·.x)=some 7:=by decide +kernel
 cases e:(z24.aA 0)[0]? with
 | none=>rw[e] at h;cases h
 | some r=>rw[e] at h;exact⟨r,rfl,Option.some.inj h⟩
end Go.SLYtpbjdoplfgeliaaGreat
