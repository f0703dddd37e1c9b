/- Walks of functions, and what they compute. Conditions: none, this text proves no statement. -/
import Derived.Test.YthncobnjdhjnoaaGreatG05
import Derived.Test.YthncobnjdhjnoaaGreatProg
import Derived.Test.YthncobnjdhjnoaaGreatG11
import Derived.Test.YthncobnjdhjnoaaGreatG07
import Derived.KernelRfl
set_option maxRecDepth 20000
set_option maxHeartbeats 4000000
namespace Go.SLYthncobnjdhjnoaaGreat
open Go Go.RowKit Go.Proofs Go.Proofs.Tryz
attribute [local irreducible] aq aJ ba bq bu Y
theorem p5{W:World}  : Fn Tryz.prog W 24 [] [] Unit (fun _=>.bool true) (fun _=>True) (fun _=>[]):=by
 refine Fn.intro (N:=59) func24 rfl ntmps24 rfl fun F=>?_
 show aq _ _ _ _ _ _ [F]
 refine J 7 ?_
 refine .p (.sK (fun v1 v2 v3=>[v1,v2,(.int .i64 0),(.int .i64 0),v3]) rfl rfl rfl (by kernel_rfl)) ?_
 refine .ai rfl (ab.fG 88 rfl rfl (by kernel_rfl)) ?_
 rintro _ _ ⟨b7,rfl,rfl⟩
 refine .ai rfl (ab.fG 89 rfl rfl (by kernel_rfl)) ?_
 rintro _ _ ⟨b8,rfl,rfl⟩
 refine .p (.iK (fun v1=>[v1,(.int .i64 0),(.int .i64 0),(.int .i64 0),(.slice none 0 0),(.slice none 0 0),(.int .i64 0),(.int .i64 0)]) rfl (by kernel_rfl)) ?_
 refine .ai rfl (ab.alloc rfl zeroValue60 rfl) ?_
 rintro _ _ ⟨b1,rfl,rfl⟩
 refine J 7 ?_
 refine .ai rfl (ab.fG 60 rfl rfl (by kernel_rfl)) ?_
 rintro _ _ ⟨b13,rfl,rfl⟩
 refine .c call8 rfl (lH (A:=J8 b7 b8 b13) (ps:=[je b7 b8,je b7 b8]) (procs:=3) EO EP ER) fun o ho=>?_
 rw[show[je b7 b8,je b7 b8].map aW.p=[He,He] from rfl] at ho ⊢
 rw[Hf] at ho ⊢
 obtain⟨kb,rfl⟩:=Option.isSome_iff_exists.1 ho
 refine .fr (A:=optH (fun b=>ma b (Krn.new 3 [He,He])) (some kb)) (Bs:=[ma kb zB]) .auto gN ?_
 refine .o1 (C:=ma kb zB) .auto rfl ?_
 rintro bl -
 have hi:Inv 16 zB:=(vA Hf).1
 have hk:=kr hi [0,0] 0
 refine JD 18 (fun h22=>?_) fun h22=>?_
 ·cases h22
 ·refine J 5 ?_
  refine .ai rfl (ab.fG 3 rfl rfl (by kernel_rfl)) ?_
  rintro _ _ ⟨b24,rfl,rfl⟩
  refine .c call48 rfl (sG (k:=zB) (A:=arr b24 0 [.int .i64 0,.int .i64 0]) (prio:=[0,0]) (Rd.lit .here rfl (fun _ _=>rfl) rfl) (by decide) hi.ok) fun _ _=>?_
  rw[Jj]
  refine J 6 ?_
  refine .ai rfl (ab.fG 3 rfl rfl (by kernel_rfl)) ?_
  rintro _ _ ⟨b27,rfl,rfl⟩
  refine .c call25 rfl (iZ (k:=zB) (A:=arr b27 0 [.int .i64 0,.int .i64 0]) (prio:=[0,0]) (Rd.lit .here rfl (fun _ _=>rfl) rfl) (by decide) hi (by decide)) fun _ _=>?_
  rw[Jk]
  refine J 13 ?_
  refine .dg rfl rfl rfl (ab.fG 3 rfl rfl (by kernel_rfl)) ?_
  rintro _ _ ⟨b37,rfl,rfl⟩
  refine .cg call48 rfl (sG (k:=(zB.share [0,0] 0).1) (A:=arr b37 0 [.int .i64 0,.int .i64 0]) (prio:=[0,0]) (Rd.lit .here rfl (fun _ _=>rfl) rfl) (by decide) hk.1.ok) fun _ _=>?_
  rw[Jl]
  refine J 3 ?_
  refine .dg rfl rfl rfl (ab.fG 3 rfl rfl (by kernel_rfl)) ?_
  rintro _ _ ⟨b42,rfl,rfl⟩
  refine .cg call49 rfl (ji (k:=(zB.share [0,0] 0).1) (A:=arr b42 0 [.int .i64 0,.int .i64 0]) (prio:=[0,0]) (Rd.lit .here rfl (fun _ _=>rfl) rfl) (by decide) hk.1.ok) fun u43 _=>?_
  rw[Jm]
  refine .dg rfl rfl rfl (ab.fG 3 rfl rfl (by kernel_rfl)) ?_
  rintro _ _ ⟨b44,rfl,rfl⟩
  refine .cg call20 rfl (iE (A:=seps [sl ar 1 u43 [1,1],arr b44 0 [.int .i64 1,.int .i64 1]]) (xs:=[1,1]) (ys:=[1,1]) (Rd.et (Rd.sl .here)) (Rd.et (Rd.lit (.there .here) rfl (fun _ _=>rfl) rfl)) (by decide)) fun _ _=>?_
  refine J 3 ?_
  refine .cg call13 rfl (jP (k:=(zB.share [0,0] 0).1) hk.1.ok.ol) fun u49 _=>?_
  rw[Jn]
  refine .dg rfl rfl rfl (ab.fG 3 rfl rfl (by kernel_rfl)) ?_
  rintro _ _ ⟨b50,rfl,rfl⟩
  refine .cg call20 rfl (iE (A:=seps [sl ar 1 u49 [2],arr b50 0 [.int .i64 2]]) (xs:=[2]) (ys:=[2]) (Rd.et (Rd.sl .here)) (Rd.et (Rd.lit (.there .here) rfl (fun _ _=>rfl) rfl)) (by decide)) fun _ _=>?_
  refine J 3 ?_
  refine .dg rfl rfl rfl (ab.fG 3 rfl rfl (by kernel_rfl)) ?_
  rintro _ _ ⟨b55,rfl,rfl⟩
  refine .cg call25 rfl (iZ (k:=(zB.share [0,0] 0).1) (A:=arr b55 0 [.int .i64 0]) (prio:=[0]) (Rd.lit .here rfl (fun _ _=>rfl) rfl) (by decide) hk.1 (by decide)) fun _ _=>?_
  rw[Jo]
  exact JR 6 ()
end Go.SLYthncobnjdhjnoaaGreat
namespace Go.SLYthncobnjdhjnoaaGreat
open Go Go.RowKit
theorem Fy{Q:Lib→Prop}(hg:∀ l p,Q l→Q (l.cO p).2){k:Krn}(p n:Int)(h:∀ l∈k.libs,Q l):∀ l∈(k.cz p n).2.libs,Q l:=fun x hx=>by
 rcases rS k p n with e | ⟨i,j,l,rfl,rfl,ho,hl,e⟩
 ·rw[e] at hx;exact h x hx
 ·rw[e] at hx
  rcases List.mem_or_eq_of_mem_set hx with hx | rfl
  ·exact h x hx
  ·exact hg _ _ (h l (List.mem_of_getElem? hl))
theorem Fz{Q:Lib→Prop}(hr:∀ l p,Q l→Q (l.cF p).2){k:Krn}(p:Int)(h:∀ l∈k.libs,Q l):∀ l∈(k.take p).2.libs,Q l:=fun x hx=>by
 unfold Krn.take at hx
 split at hx
 ·exact h x hx
 ·split at hx
  ·exact h x hx
  ·rename_i o _ _
   have hx':x∈k.libs.set o.toNat ((k.libs.getD o.toNat Dm).cF p).2:=hx
   by_cases hi:o.toNat<k.libs.length
   ·obtain⟨l,hl⟩:=al hi
    rw[bx hl] at hx'
    rcases List.mem_or_eq_of_mem_set hx' with hx' | rfl
    ·exact h x hx'
    ·exact hr _ _ (h l (List.mem_of_getElem? hl))
   ·rw[List.set_eq_of_length_le (by omega)] at hx'
    exact h x hx'
section
variable{Q:Lib→Prop}(hg:∀ l p,Q l→Q (l.cO p).2)(hr:∀ l p,Q l→Q (l.cF p).2)
include hr in
theorem p9:∀ (ps:List Int) {k:Krn},(∀ l∈k.libs,Q l)→ ∀ l∈(ec ps k).libs,Q l
 | [],_,h=>h
 | p::ps,_k,h=>p9 ps (Fz hr p h)
include hg in
theorem sH(n:Int):∀ (c:Nat) {k:Krn},(∀ l∈k.libs,Q l)→ ∀ l∈(giveTo c n k).libs,Q l
 | 0,_,h=>h
 | c+1,_k,h=>sH n c (Fy hg _ _ h)
include hr in
theorem ow:∀ (l:List Int) (n mv:Nat) {k:Krn},(∀ x∈k.libs,Q x)→ ∀ x∈(takeFrom l n (k,mv)).1.libs,Q x
 | [],_,_,_,h=>h
 | w::l,n,mv,k,h=>by
  rw[takeFrom]
  exact ow l (n+1) _ (p9 hr _ h)
include hg in
theorem ox:∀ (l:List Int) (n mv:Nat) {k:Krn},(∀ x∈k.libs,Q x)→ ∀ x∈(di l n (k,mv)).1.libs,Q x
 | [],_,_,_,h=>h
 | w::l,n,mv,k,h=>by
  rw[di]
  exact ox l (n+1) _ (sH hg _ _ h)
include hg hr in
theorem CV{k:Krn}(prio:List Int)(turn:Int)(h:∀ x∈k.libs,Q x):∀ x∈(k.share prio turn).1.libs,Q x:=by
 unfold Krn.share
 rw[A9 (takeFrom (k.targets prio turn) 0 (k,0))]
 exact ox hg _ 0 _ (ow hr _ 0 0 h)
end
structure Aq(k:Nat)(l:Lib):Prop where
 sp:jj (k+1) l.bI
 vl:l.vs.length≤64
 rl:l.rows.length≤64
 rw:∀ r∈l.rows,r.length≤40 * (k+1)
theorem Aq.same{k:Nat}{l l':Lib}(h:Aq k l)(s:xH l l')(hl:l'.vs.length=l.vs.length):Aq k l':=⟨by rw[s.bI];exact h.sp,by rw[hl];exact h.vl,by rw[s.rows];exact h.rl,by rw[s.rows];exact h.rw⟩
theorem er.row{k:Nat}{l:Lib}(h:er k l):Aq k l:=⟨h.sp,h.vl,h.rl,h.rw⟩
theorem Aq.inv{k n:Nat}{l:Lib}(h:Aq k l)(hk:k≤n)(he:fA l≤40 * (n+1)):er n l:=⟨h.sp.more (by omega),h.vl,h.rl,he,fun r hr=>Nat.le_trans (h.rw r hr) (by omega)⟩
theorem dT.inv{n:Nat}{k:Krn}(h:dT n k):Inv (40 * (n+1)) k:=⟨h.ok,h.ag⟩
theorem dT.share{k:Krn}(h:dT 0 k)(prio:List Int)(turn:Int):dT 52 (k.share prio turn).1:=by
 obtain⟨h1,h2⟩:=kr h.inv prio turn
 have h3:∀ x∈(k.share prio turn).1.libs,Aq 0 x:=CV (fun l p hl=>hl.same (gB l p) (m8 l p).vs) (fun l p hl=>hl.same (fa l p) (lI l p).vs) prio turn fun x hx=>(h.oz x hx).row
 exact⟨h1.ag,h1.ok.own,h1.ok.ll,fun x hx=>(h3 x hx).inv (by omega) (Nat.le_trans (h1.ok.oz x hx).ev (by omega))⟩
def s5(k:Krn):List Int:=k.libs.map fun l=>(l.bI.aB.length:Int)
theorem yu(k:Krn):(s5 k).length=k.libs.length:=List.length_map ..
theorem Bk{k:Krn}{n:Nat}{l:Lib}(h:k.libs[n]?=some l):(s5 k)[n]?=some (l.bI.aB.length:Int):=by unfold s5;rw[List.getElem?_map,h];rfl
theorem CW{k:Krn}{n:Nat}{l:Lib}(h:k.libs[n]?=some l):(s5 k).take (n+1)=(s5 k).take n++[(l.bI.aB.length:Int)]:=bj (Bk h)
theorem yw(k:Krn):k.demand=(rQ k).map fun s=>(s.ready.length:Int):=by unfold Krn.demand rQ;rw[List.map_map];rfl
theorem CX{k k':Krn}(h:rQ k'=rQ k){n:Nat}{l':Lib}(hl:k'.libs[n]?=some l'):∃ l,k.libs[n]?=some l∧l'.bI=l.bI:=by
 have h1:=congrArg (fun z:List Spc=>z[n]?) h
 unfold rQ at h1
 simp only[List.getElem?_map,hl] at h1
 cases e:k.libs[n]? with
 | none=>rw[e] at h1;cases h1
 | some l=>rw[e] at h1;exact⟨l,rfl,Option.some.inj h1⟩
end Go.SLYthncobnjdhjnoaaGreat
namespace Go.SLYthncobnjdhjnoaaGreat
open Go Go.RowKit Go.Proofs Go.Proofs.Tryz
attribute [local irreducible] aq aJ ba bq bu Y
theorem yx{W:World}{A:aa}{v:Value}{ps:List aW}(hr:Rd W [A] fe 8 v ps)(hp:∀ p∈ps,ez W [A] p)(hb:ps.length≤1000000000∧ ∀ p∈ps,p.fs.length≤1000000000∧p.sems.length≤1000000000∧p.pipes.length≤1000000000)(hw:∀ p∈ps.map aW.p, ∀ f∈p.funcs, ∀ i∈f,fu i.n){np turn:Int}{u:Value}{acts:List Ij}(ha:Rd W [A] rE 3 u acts)(_hal:acts.length≤1000000000)(hnp:0≤np∧np≤255):Fn Tryz.prog W 6 [.int .u8 np,v,u,.int .i64 turn] [A] Unit (fun _=>.bool true) (fun _=>True) (fun _=>[A]):=by
 refine Fn.intro (N:=103) func6 rfl ntmps6 rfl fun F=>?_
 haveI hRI:∀ (H:List aa) [bE H A],aG W H v fe 8 ps:=fun H h=>⟨hr.at h.has⟩
 haveI hRJ:∀ (H:List aa) [bE H A],aG W H u rE 3 acts:=fun H h=>⟨ha.at h.has⟩
 show aq _ _ _ _ _ _ [A,F]
 obtain⟨mk,mkd⟩:∃ mk,mk=np.toNat % (9):=⟨_,rfl⟩
 have mkl:mk<9:=by rw[mkd];exact Nat.mod_lt _ (by decide)
 have mkt:np.tmod (9)=(mk:Int):=by
  obtain⟨m,rfl⟩:∃ m:Nat,np=(m:Int):=⟨np.toNat,by omega⟩
  rw[mkd,Int.toNat_natCast];exact(Int.ofNat_tmod m (9)).symm
 refine J 8 ?_
 refine .p (.eS (Y.rem rfl rfl (by omega)) mkt) ?_
 refine .p (.gm underlying5 underlying3 rfl (by omega)) ?_
 refine .p (.add rfl rfl (by omega)) ?_
 refine J 1 ?_
 refine .c call8 rfl (lH (procs:=(mk:Int)+1) hr hp hb) fun o ho=>?_
 refine JD 14 (fun h27=>?_) fun h27=>?_
 ·refine J 2 ?_
  refine .c call24 rfl p5 fun _ _=>?_
  exact JR 5 ()
 ·have hc:fp ((mk:Int)+1) (ps.map aW.p)=0:=Decidable.not_not.mp h27
  obtain⟨kb,rfl⟩:=Option.isSome_iff_exists.1 (ho.trans (decide_eq_true hc))
  refine .fr (A:=optH (fun b=>ma b (Krn.new ((mk:Int)+1) (ps.map aW.p))) (some kb)) (Bs:=[ma kb (Krn.new ((mk:Int)+1) (ps.map aW.p))]) .auto gN ?_
  refine .o1 (C:=ma kb (Krn.new ((mk:Int)+1) (ps.map aW.p))) .auto rfl ?_
  rintro bl -
  have hI0:=dT.new hc hw
  have hni:=vA hc
  have hlw:(Krn.new ((mk:Int)+1) (ps.map aW.p)).libs.length=ps.length:=hni.2.1.trans (List.length_map ..)
  have hp8:ps.length≤8:=hlw ▸ hI0.ll
  have hs0:=hI0.share (List.replicate ps.length (0:Int)) 0
  have hsl:=(kr hI0.inv (List.replicate ps.length (0:Int)) 0).2.ll.trans hlw
  refine J 6 ?_
  refine .ai rfl (ab.Bu (enc:=ar) (k:=1) 0 ps.length rfl underlying33 typeInfo3 rfl rfl rfl rfl (by decide) (by decide) rfl rfl rfl rfl (by omega)) ?_
  rintro _ _ ⟨b31,rfl,rfl⟩
  refine J 7 ?_
  refine .c call25 rfl (iZ (A:=sl ar 1 (.slice (some ⟨b31,0,none⟩) ps.length ps.length) (List.replicate ps.length (0:Int))) (v:=(.slice (some ⟨b31,0,none⟩) ps.length ps.length)) (prio:=(List.replicate ps.length (0:Int))) (turn:=0) (k:=(Krn.new ((mk:Int)+1) (ps.map aW.p))) (Rd.sl .here) (by rw[List.length_replicate];omega) hI0.inv (by decide)) fun _ _=>?_
  refine J 9 ?_
  refine .bf (X:=Nat×Krn) [12,35,36,37,38,39,40,41,42,43,44,45,46,47,48,49,50,51,52,53,54,55,56] (fun z=>acts.length-z.1) (fun z=>z.1≤acts.length∧z.1≤100∧dT (52+z.1) z.2∧z.2.libs.length=ps.length) (fun z=>[(12,some (.int .i64 (z.1:Int)))]) (fun z=>[bX kb bl z.2,sl ar 1 (.slice (some ⟨b31,0,none⟩) ps.length ps.length) (List.replicate ps.length (0:Int)),A,F]) (0,((Krn.new ((mk:Int)+1) (ps.map aW.p)).share (List.replicate ps.length (0:Int)) 0).1) ?_ ?_ ?_ ?_
  ·exact⟨Nat.zero_le _,Nat.zero_le _,hs0,hsl⟩
  ·exact⟨rfl,trivial⟩
  ·exact fun w s=>au.kept .auto w s
  rintro⟨i,k⟩ ⟨hi,hi2,hI,hkl⟩
  simp only at hi hi2 hI hkl
  refine J 8 ?_
  apply aJ.eT 3 42 39 [39,40,41,42] rfl
  ·intro h39
   exact JS 4
  ·intro h39
   exact JS 4
  refine JD 2 (fun h42=>?_) fun h42=>?_
  ·simp only[Bool.and_eq_true,decide_eq_true_eq] at h42
   refine J 4 ?_
   refine .draw [] [1,1,1,1,1,1,1,1,1,1,1,3] rfl (by kernel_rfl) ?_
   obtain⟨x,hx⟩:=al (show i<acts.length by omega)
   refine J 3 ?_
   refine .p (.ix i rfl rfl rfl (by omega)) ?_
   refine J 1 ?_
   refine .p (.ld rfl (Cell.rd (c:=1) Rd.s hx rfl)) ?_
   refine J 2 ?_
   refine .p (.ix i rfl rfl rfl (by omega)) ?_
   refine J 1 ?_
   refine .p (.ld rfl (Cell.rd (c:=2) Rd.s hx rfl)) ?_
   refine .c call12 rfl (l8 (k:=k) (p:=x.slot) (c:=x.choice) hI (by omega)) fun u56 _=>?_
   refine J 8 ?_
   refine .aF (i+1,(k.step x.slot x.choice).2) .auto rfl ?_ ?_ ?_ ?_
   ·show acts.length-(i+1)<acts.length-i;omega
   ·exact⟨by show i+1≤_;omega,by show i+1≤100;omega,hI.step (by omega) _ _,(uq _ _ _).trans hkl⟩
   ·exact⟨rfl,trivial⟩
   ·exact fun w s=>au.kept .auto w s
  ·simp only[Bool.and_eq_false_iff,decide_eq_false_iff_not] at h42
   refine J 8 ?_
   refine .c call19 rfl (fR (k:=k) hI.ok) fun u58 _=>?_
   refine J 5 ?_
   refine .ai rfl (ab.fG 3 rfl rfl (by kernel_rfl)) ?_
   rintro _ _ ⟨b59,rfl,rfl⟩
   refine J 10 ?_
   refine .bf (X:=Nat×Value) [14,15,60,61,62,63,64,65,66,67,68,69,70,71,72,73,74] (fun z=>ps.length-z.1) (fun z=>z.1≤ps.length) (fun z=>[(15,some (.int .i64 (z.1:Int))),(14,some z.2)]) (fun z=>[sl ar 1 z.2 ((s5 k).take z.1),sl ar 1 u58 k.demand,bX kb bl k,sl ar 1 (.slice (some ⟨b31,0,none⟩) ps.length ps.length) (List.replicate ps.length (0:Int)),A,F]) (0,.slice (some ⟨b59,0,none⟩) 0 0) ?_ ?_ ?_ ?_
   ·exact Nat.zero_le _
   ·exact⟨rfl,rfl,trivial⟩
   ·exact fun w s=>au.kept .auto w s
   rintro⟨n,w14⟩ hn
   simp only at hn
   refine JD 9 (fun h63=>?_) fun h63=>?_
   ·obtain⟨l,hl⟩:=al (show n<k.libs.length by omega)
    have hsz:=(hI.oz l (List.mem_of_getElem? hl)).sz (show 52+i≤180 by omega)
    refine J 8 ?_
    refine .c call15 rfl (iI (k:=k) (n:=(n:Int))) fun _ _=>?_
    refine .o3 (C:=bX kb bl k) .auto rfl ?_
    rintro vo vl xs ⟨hxb,hxs⟩
    have hxx:=And.intro hxb hxs
    obtain⟨x2,hx2,hxe,hbx⟩:=gb hxb hxs hl
    subst hxe
    rw[bK,hbx]
    refine .fr .auto (cY (f:=fun x:Nat×Lib=>du x.1 x.2) hx2) ?_
    refine .o2 (C:=du x2.1 x2.2) .auto rfl ?_
    rintro bs br -
    refine .c call26 rfl (pq (b:=x2.1) (bs:=bs) (br:=br) (l:=x2.2)) fun _ _=>?_
    refine .o2 (C:=aX x2.1 bs br x2.2) .auto rfl ?_
    rintro vv vw -
    refine .c call27 rfl (og (b:=bs) (s:=x2.2.bI) (Nat.le_trans hsz.sp.aB (by decide))) fun u71 _=>?_
    refine .to (A:=aO (fun x:Nat×Lib=>du x.1 x.2) xs) .auto (dR (f:=fun x:Nat×Lib=>du x.1 x.2) hx2) ?_
    refine J 1 ?_
    refine .ai rfl (ab.fG 3 rfl rfl (by kernel_rfl)) ?_
    rintro _ _ ⟨b73,rfl,rfl⟩
    refine .ai rfl (ab.gv (enc:=ar) (k:=1) (x2.2.bI.aB.length:Int) rfl underlying33 underlying33 typeInfo3 rfl rfl rfl (by decide) rfl rfl rfl .auto rfl .auto (by rw[List.length_take];omega) rfl) ?_
    rintro _ _ ⟨v74,rfl,rfl⟩
    refine J 9 ?_
    refine .aF (n+1,v74) .auto rfl ?_ ?_ ?_ ?_
    ·show ps.length-(n+1)<ps.length-n;omega
    ·show n+1≤_;omega
    ·exact⟨rfl,rfl,trivial⟩
    ·show ∀ w,Sat _ w _→Sat _ w (seps [sl ar 1 v74 ((s5 k).take (n+1)),sl ar 1 u58 k.demand,bX kb bl k,sl ar 1 (.slice (some ⟨b31,0,none⟩) ps.length ps.length) (List.replicate ps.length (0:Int)),A,F])
     rw[CW hl]
     exact fun w s=>au.kept .auto w s
   ·obtain rfl:n=ps.length:=by omega
    rw[List.take_of_length_le (show(s5 k).length≤ps.length by rw[yu];omega)]
    obtain⟨hi3,hk3⟩:=kr hI.inv (List.replicate ps.length (0:Int)) turn
    obtain⟨k3,hk3d⟩:∃ k3,k3=(k.share (List.replicate ps.length (0:Int)) turn).1:=⟨_,rfl⟩
    rw[← hk3d] at hi3 hk3
    refine J 10 ?_
    refine .c call25 rfl (iZ (A:=sl ar 1 (.slice (some ⟨b31,0,none⟩) ps.length ps.length) (List.replicate ps.length (0:Int))) (v:=(.slice (some ⟨b31,0,none⟩) ps.length ps.length)) (prio:=(List.replicate ps.length (0:Int))) (turn:=turn) (k:=k) (Rd.sl .here) (by rw[List.length_replicate];omega) hI.inv (by omega)) fun _ _=>?_
    rw[← hk3d]
    refine J 9 ?_
    refine .bf (X:=Nat) [8,16,79,80,81,82,83,84,85,86,87,88,89,90,91,92,93,94,95] (fun z=>ps.length-z) (fun z=>z≤ps.length) (fun z=>[(16,some (.int .i64 (z:Int)))]) (fun z=>[sl ar 1 w14 (s5 k),sl ar 1 u58 k.demand,bX kb bl k3,A,F]) 0 ?_ ?_ ?_ ?_
    ·exact Nat.zero_le _
    ·exact⟨rfl,trivial⟩
    ·exact fun w s=>au.kept .auto w s
    rintro n hn3
    refine JD 9 (fun h82=>?_) fun h82=>?_
    ·obtain⟨l3,hl3⟩:=al (show n<k3.libs.length by rw[hk3.ll];omega)
     obtain⟨l,hl,hse⟩:=CX hk3.bI hl3
     have hrc:=Bk hl
     have hsz:=(hI.oz l (List.mem_of_getElem? hl)).sz (show 52+i≤180 by omega)
     refine J 5 ?_
     refine .draw [sl ar 1 w14 (s5 k)] [1,1,2,2,2,1,0,0,0,0,1] rfl (by kernel_rfl) ?_
     refine J 2 ?_
     refine .c2 call15 rfl (iI (k:=k3) (n:=(n:Int))) fun _ _=>?_
     refine .o3 (C:=bX kb bl k3) .auto rfl ?_
     rintro vo vl xs ⟨hxb,hxs⟩
     have hxx:=And.intro hxb hxs
     obtain⟨x2,hx2,hxe,hbx⟩:=gb hxb hxs hl3
     subst hxe
     rw[bK,hbx]
     refine .fr .auto (cY (f:=fun x:Nat×Lib=>du x.1 x.2) hx2) ?_
     refine .o2 (C:=du x2.1 x2.2) .auto rfl ?_
     rintro bs br -
     refine .c2 call26 rfl (pq (b:=x2.1) (bs:=bs) (br:=br) (l:=x2.2)) fun _ _=>?_
     refine .o2 (C:=aX x2.1 bs br x2.2) .auto rfl ?_
     rintro vv vw -
     refine .c2 call27 rfl (og (b:=bs) (s:=x2.2.bI) (by rw[hse];exact Nat.le_trans hsz.sp.aB (by decide))) fun u89 _=>?_
     refine .to (A:=aO (fun x:Nat×Lib=>du x.1 x.2) xs) .auto (dR (f:=fun x:Nat×Lib=>du x.1 x.2) hx2) ?_
     refine J 3 ?_
     refine .q (.ix n rfl rfl rfl (by rw[yu];omega)) ?_
     refine .q (.lr rfl hrc) ?_
     refine JD 3 (fun h95=>?_) fun h95=>?_
     ·exact absurd (by rw[hse]) h95
     ·refine J 8 ?_
      refine .aF (n+1) .auto rfl ?_ ?_ ?_ ?_
      ·omega
      ·show n+1≤_;omega
      ·exact⟨rfl,trivial⟩
      ·exact fun w s=>au.kept .auto w s
    ·refine J 7 ?_
     refine .c call24 rfl p5 fun _ _=>?_
     refine J 2 ?_
     refine .cg call19 rfl (fR (k:=k3) hi3.ok) fun u99 _=>?_
     rw[yw k3,hk3.bI, ← yw]
     refine J 1 ?_
     refine .cg call20 rfl (iE (A:=seps [sl ar 1 u99 k.demand,sl ar 1 u58 k.demand]) (Rd.et (Rd.sl .here)) (Rd.et (Rd.sl (.there .here))) (by rw[show k.demand.length=k.libs.length from List.length_map ..];omega)) fun _ _=>?_
     refine J 5 ?_
     refine .aP rfl rfl fun w s=>⟨(),?_,trivial,aj .auto s⟩
     rw[decide_eq_true rfl]
end Go.SLYthncobnjdhjnoaaGreat
