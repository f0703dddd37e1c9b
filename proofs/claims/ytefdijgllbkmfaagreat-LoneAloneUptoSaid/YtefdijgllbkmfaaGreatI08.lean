/- Walks of functions, and what they compute. Conditions: none, this text proves no statement. -/
import Derived.Test.YtefdijgllbkmfaaGreatI06
import Derived.Test.YtefdijgllbkmfaaGreatProg
import Derived.Test.YtefdijgllbkmfaaGreatI07
import Derived.KernelRfl
import Derived.Test.YtefdijgllbkmfaaGreatI04
import Derived.Test.YtefdijgllbkmfaaGreatI05
set_option maxRecDepth 20000
set_option maxHeartbeats 4000000
namespace Go.SLYtefdijgllbkmfaaGreat
open Go Go.RowKit Go.Proofs Go.Proofs.Tryz
attribute [local irreducible] ax aS bo bY bP Y
set_option maxHeartbeats 1000000 in
theorem zJ{W:World}{ba b:Nat}{v:RV}{a:RA}{x y:Int}(hk:uA a)(_hop:33≤a.i.op∧a.i.op≤38)(hx:0≤x∧x≤18446744073709551615)(hy:0≤y∧y≤18446744073709551615):Fn Tryz.prog W 135 [ptr ba,.int .u64 x,.int .u64 y] [cA ba b v a] Unit (fun _=>.tuple #[]) (fun _=>True) (fun _=>[cA ba b v (a.kernel x y)]):=by
 refine Fn.intro (N:=209) func135 rfl ntmps135 rfl fun F=>?_
 show ax _ _ _ _ _ _ [cA ba b v a,F]
 refine .o2 (C:=cA ba b v (a)) .auto rfl ?_
 rintro vw vl -
 refine .fr (A:=cp b v (a).s) .auto bB ?_
 refine .o1 (C:=jl cM 1 b 318 a.s.blk) .auto rfl ?_
 rintro vb -
 refine .o1 (C:=jl dY 4 b 319 a.s.ask) .auto rfl ?_
 rintro va -
 have hn:=hk.n
 have hnn:=hk.nn
 have hI:=hk.I
 have hIn:=hI.n
 have hIa:=hI.a
 have hbl:=hk.bl
 have hnw:=hk.nw
 refine J 1 ?_
 refine .draw [arr ba 0 (lf b (a) vw vl)] [0,0,0,0,0,0,0,0,2,1,3] rfl (by kernel_rfl) ?_
 refine J 7 ?_
 refine .q (.la rfl (Cells.lG (ds:=dC a.i) (Cells.a (cs:=lf b a vw vl)) rfl)) ?_
 refine .d2 rfl Kept.auto (af.alloc rfl zeroValue131 rfl) (by rintro _ _ ⟨b7,rfl,rfl⟩;exact Kept.auto) ?_
 rintro _ _ ⟨b7,rfl,rfl⟩
 refine J 1 ?_
 refine .d3 rfl (af.tf (by exact sizeOf131) rfl rfl rfl (by rfl)) ?_
 rintro _ _ ⟨rfl,rfl⟩
 refine JD 16 (fun h27=>?_) fun h27=>?_
 ·refine J 2 ?_
  first | refine ax.dK rfl (fun _=>?_) (fun hc=>absurd h27 hc) | refine ax.cond rfl (fun _=>?_) (fun hc=>by rw[h27] at hc;cases hc)
  refine J 1 ?_
  refine .draw [] [1,1,1,1,1,1,1] rfl (by kernel_rfl) ?_
  refine J 3 ?_
  refine .p (.add rfl rfl (by omega)) ?_
  refine J 13 ?_
  refine .dK rfl (fun hc=>absurd hc (by omega)) (fun _=>?_)
  refine J 11 ?_
  refine .p (.fY underlying3 underlying38 rfl (by omega)) ?_
  refine JD 3 (fun h46=>?_) fun h46=>?_
  ·refine J 5 ?_
   refine .c call129 rfl (cv (a:=a) (x:=y) (y:=0) (e:=1) hk.n (by show a.s.au.length≤_;have:=hk.r;omega) (by decide)) fun _ _=>?_
   refine J 5 ?_
   rw[Jj h27,wG h46]
   exact JR 0 ()
  ·refine J 3 ?_
   refine .draw [arr ba 0 (lf b (a) vw vl),arr b 319 [va],arr b7 0 (dC a.i)] [0,0,0,0,0,1,1,1,1,1,1,1,1,1,1,1,2,2,1,1,3] rfl (by kernel_rfl) ?_
   refine J 10 ?_
   refine .p (.gp underlying38 underlying3 rfl (by omega)) ?_
   refine J 4 ?_
   refine .p (.Bv (fun v1 v2 v3 v4=>[v1,v2,v3,v4]) rfl rfl rfl rfl (by kernel_rfl)) ?_
   refine .d2 rfl Kept.auto (af.gN 175 rfl rfl (by kernel_rfl)) (by rintro _ _ ⟨b67,rfl,rfl⟩;exact Kept.auto) ?_
   rintro _ _ ⟨b67,rfl,rfl⟩
   refine .d2 rfl Kept.auto (af.fb (enc:=dY) (k:=4) (⟨a.n,y,decide (a.i.op=34),0⟩:pz) rfl underlying60 underlying60 typeInfo175 rfl rfl rfl (by decide) rfl rfl rfl .auto rfl .auto (by have:=hk.al;omega) rfl) (by rintro _ _ ⟨v68,rfl,rfl⟩;exact Kept.auto) ?_
   rintro _ _ ⟨v68,rfl,rfl⟩
   refine J 2 ?_
   refine .d3 rfl (af.m6 sizeOf60 rfl rfl rfl) ?_
   rintro _ _ ⟨rfl,rfl⟩
   refine J 7 ?_
   refine .c call133 rfl (gi (a:=(a.w {a.s with ask:=a.s.ask++[⟨a.n,y,decide (a.i.op=34),0⟩] })) (why:=5) (into:=a.i.a+1) (x:=y) (y:=0) hk.n (by show a.s.au.length≤_;have:=hk.r;omega)) fun _ _=>?_
   refine J 2 ?_
   rw[Jj h27,wH h46]
   exact JR 0 ()
 ·refine JD 5 (fun h27b=>?_) fun h27b=>?_
  ·have h27:=h27b
   refine J 1 ?_
   refine .draw [] [1,1,1,1,1,1,1] rfl (by kernel_rfl) ?_
   refine J 3 ?_
   refine .p (.add rfl rfl (by omega)) ?_
   refine J 13 ?_
   refine .dK rfl (fun _=>?_) (fun hc=>absurd (by omega) hc)
   refine J 17 ?_
   refine .p (.fY underlying3 underlying38 rfl (by omega)) ?_
   refine JD 3 (fun h46=>?_) fun h46=>?_
   ·refine J 5 ?_
    refine .c call129 rfl (cv (a:=a) (x:=x) (y:=y) (e:=1) hk.n (by show a.s.au.length≤_;have:=hk.r;omega) (by decide)) fun _ _=>?_
    refine J 5 ?_
    rw[Jk h27,wG h46]
    exact JR 0 ()
   ·refine J 3 ?_
    refine .draw [arr ba 0 (lf b (a) vw vl),arr b 319 [va],arr b7 0 (dC a.i)] [0,0,0,0,0,1,1,1,1,1,1,1,1,1,1,1,2,2,1,1,3] rfl (by kernel_rfl) ?_
    refine J 10 ?_
    refine .p (.gp underlying38 underlying3 rfl (by omega)) ?_
    refine J 4 ?_
    refine .p (.Bv (fun v1 v2 v3 v4=>[v1,v2,v3,v4]) rfl rfl rfl rfl (by kernel_rfl)) ?_
    refine .d2 rfl Kept.auto (af.gN 175 rfl rfl (by kernel_rfl)) (by rintro _ _ ⟨b67,rfl,rfl⟩;exact Kept.auto) ?_
    rintro _ _ ⟨b67,rfl,rfl⟩
    refine .d2 rfl Kept.auto (af.fb (enc:=dY) (k:=4) (⟨a.n,x,decide (a.i.op=34),y⟩:pz) rfl underlying60 underlying60 typeInfo175 rfl rfl rfl (by decide) rfl rfl rfl .auto rfl .auto (by have:=hk.al;omega) rfl) (by rintro _ _ ⟨v68,rfl,rfl⟩;exact Kept.auto) ?_
    rintro _ _ ⟨v68,rfl,rfl⟩
    refine J 2 ?_
    refine .d3 rfl (af.m6 sizeOf60 rfl rfl rfl) ?_
    rintro _ _ ⟨rfl,rfl⟩
    refine J 7 ?_
    refine .c call133 rfl (gi (a:=(a.w {a.s with ask:=a.s.ask++[⟨a.n,x,decide (a.i.op=34),y⟩] })) (why:=5) (into:=0) (x:=x) (y:=y) hk.n (by show a.s.au.length≤_;have:=hk.r;omega)) fun _ _=>?_
    refine J 2 ?_
    rw[Jk h27,wH h46]
    exact JR 0 ()
  ·refine JD 6 (fun h76=>?_) fun h76=>?_
   ·refine J 1 ?_
    refine .draw [] [1,1,1,1,1,1,1,1] rfl (by kernel_rfl) ?_
    have hlt:a.i.n.toNat<a.s.jv.length:=by have:=hk.o5 (by omega);omega
    obtain⟨u,hu⟩:=aB hlt
    have hpw:=hk.pw u (List.mem_of_getElem? hu)
    refine .fo (fun w st=>st.fact .auto (eU (Nat.lt_of_le_of_lt (Nat.zero_le _) hlt))) fun hSP=>?_
    refine J 6 ?_
    refine .p (.tn a.i.n.toNat underlying59 sizeOf140 rfl rfl hSP (show a.i.n=((a.i.n.toNat:Nat):Int) by omega) hlt) ?_
    refine J 5 ?_
    refine .draw [] [1,1,1,1,1,1,1,1,1,1,1,1,1,1,1,1,1,1] rfl (by kernel_rfl) ?_
    refine .fr .auto (fL (enc:=dO) (k:=4) (inner:=dP) (fun _=>rfl) hu) ?_
    refine .o1 (C:=cE dO dP (blk v.u) (cB v.u+a.i.n.toNat * 4) u) .auto rfl ?_
    rintro⟨v1,v2,v3⟩ -
    rw[show dP ((v1,v2,v3),u)=seps [sl cM 1 v1 (u).words,sl eO 2 v2 (u).bN,sl aP 1 v3 (u).bz] from rfl,show dO ((v1,v2,v3),u)=[.int .i64 (u).room,v1,v2,v3] from rfl]
    refine .fR .auto ?_
    refine J 7 ?_
    apply bo.gr 11 102 91 [91,92,93,94,95,96,97,98,99,100,101,102] rfl
    ·intro h91
     exact JS 12
    ·intro h91
     exact JS 12
    refine JD 2 (fun h102=>?_) fun h102=>?_
    ·simp only[Bool.and_eq_true,decide_eq_true_eq] at h102
     have h102:u.bz.length=0∧(u.words.length:Int)=u.room:=⟨by omega,h102.2⟩
     refine J 1 ?_
     refine .draw [arr ba 0 (lf b (a) vw vl),arr (blk v.u) (cB v.u+a.i.n.toNat * 4) [.int .i64 (u).room,v1,v2,v3]] [0,0,0,0,0,1,1,1,1,1,1,2,2,1,1,3] rfl (by kernel_rfl) ?_
     refine J 10 ?_
     refine .p (.gB (fun v1 v2=>[v1,v2]) rfl rfl (by kernel_rfl)) ?_
     refine .d2 rfl Kept.auto (af.gN 295 rfl rfl (by kernel_rfl)) (by rintro _ _ ⟨b114,rfl,rfl⟩;exact Kept.auto) ?_
     rintro _ _ ⟨b114,rfl,rfl⟩
     refine .d2 rfl Kept.auto (af.fb (enc:=eO) (k:=2) (⟨a.n,x⟩:Ptr) rfl underlying138 underlying138 typeInfo295 rfl rfl rfl (by decide) rfl rfl rfl .auto rfl .auto (by have:=hpw.2.1;omega) rfl) (by rintro _ _ ⟨v115,rfl,rfl⟩;exact Kept.auto) ?_
     rintro _ _ ⟨v115,rfl,rfl⟩
     refine J 2 ?_
     refine .d3 rfl (af.vy sizeOf138 rfl rfl rfl) ?_
     rintro _ _ ⟨rfl,rfl⟩
     refine J 8 ?_
     refine .to (A:=cE dO dP (blk v.u) (cB v.u+a.i.n.toNat * 4) ({u with bN:=u.bN++[(⟨a.n,x⟩:Ptr)] })) (Bs:=[arr (blk v.u) (cB v.u+a.i.n.toNat * 4) [.int .i64 ({u with bN:=u.bN++[(⟨a.n,x⟩:Ptr)] }).room,v1,v115,v3],sl cM 1 v1 ({u with bN:=u.bN++[(⟨a.n,x⟩:Ptr)] }).words,sl eO 2 v115 ({u with bN:=u.bN++[(⟨a.n,x⟩:Ptr)] }).bN,sl aP 1 v3 ({u with bN:=u.bN++[(⟨a.n,x⟩:Ptr)] }).bz]) .auto ma ?_
     refine .to (A:=eI dO 4 dP v.u (a.s.jv.set a.i.n.toNat ({u with bN:=u.bN++[(⟨a.n,x⟩:Ptr)] }))) (Bs:=[cE dO dP (blk v.u) (cB v.u+a.i.n.toNat * 4) ({u with bN:=u.bN++[(⟨a.n,x⟩:Ptr)] }),gM dO 4 dP v.u a.s.jv a.i.n.toNat]) .auto (fX ({u with bN:=u.bN++[(⟨a.n,x⟩:Ptr)] })) ?_
     refine .c call133 rfl (gi (a:=(a.w (a.s.oy a.i.n.toNat {u with bN:=u.bN++[(⟨a.n,x⟩:Ptr)] }))) (why:=7) (into:=0) (x:=a.i.n) (y:=x) hk.n (by show a.s.au.length≤_;have:=hk.r;omega)) fun _ _=>?_
     refine J 5 ?_
     rw[G0 h76,uE hu h102]
     exact JR 0 ()
    ·simp only[Bool.and_eq_false_iff,decide_eq_false_iff_not] at h102
     have h102:¬(u.bz.length=0∧(u.words.length:Int)=u.room):=fun h=>by
      rcases h102 with e | e
      ·exact e (by omega)
      ·exact e h.2
     refine J 8 ?_
     refine .to (A:=cE dO dP (blk v.u) (cB v.u+a.i.n.toNat * 4) (u)) (Bs:=[arr (blk v.u) (cB v.u+a.i.n.toNat * 4) [.int .i64 (u).room,v1,v2,v3],sl cM 1 v1 (u).words,sl eO 2 v2 (u).bN,sl aP 1 v3 (u).bz]) .auto ma ?_
     refine .to (A:=eI dO 4 dP v.u a.s.jv) (Bs:=[cE dO dP (blk v.u) (cB v.u+a.i.n.toNat * 4) (u),gM dO 4 dP v.u a.s.jv a.i.n.toNat]) .auto (gh hu) ?_
     refine .c call129 rfl (cv (a:=a) (x:=a.i.n) (y:=x) (e:=0) hk.n (by show a.s.au.length≤_;have:=hk.r;omega) (by decide)) fun _ _=>?_
     refine J 5 ?_
     refine .o2 (C:=cA ba b v ((a.done a.i.n x 0))) .auto rfl ?_
     rintro vw vl -
     refine .fr (A:=cp b v ((a.done a.i.n x 0)).s) .auto bB ?_
     refine .fr .auto (fL (enc:=dO) (k:=4) (inner:=dP) (fun _=>rfl) (show(a.done a.i.n x 0).s.jv[a.i.n.toNat]?=some u from hu)) ?_
     refine .o1 (C:=cE dO dP (blk v.u) (cB v.u+a.i.n.toNat * 4) u) .auto rfl ?_
     rintro⟨w1,w2,w3⟩ -
     rw[show dP ((w1,w2,w3),u)=seps [sl cM 1 w1 (u).words,sl eO 2 w2 (u).bN,sl aP 1 w3 (u).bz] from rfl,show dO ((w1,w2,w3),u)=[.int .i64 (u).room,w1,w2,w3] from rfl]
     refine .fR .auto ?_
     refine JD 8 (fun h133=>?_) fun h133=>?_
     ·refine J 2 ?_
      obtain⟨w,r,hgt⟩:∃ w r,u.bz=w::r:=by
       cases h:u.bz with
       | nil=>rw[h] at h133;exact absurd h133 (by simp)
       | cons w r=>exact⟨w,r,rfl⟩
      have hgl:=hpw.2.2.1
      have hgx:=hpw.2.2.2.2.2
      rw[hgt] at hgl hgx
      have hw16:=hgx w (List.mem_cons_self ..)
      rw[List.length_cons] at hgl
      rw[hgt]
      refine J 4 ?_
      refine .p (.ix 0 rfl rfl rfl (by simp)) ?_
      refine .p (.dJ (Y.load isAgg3 rfl (Cell.yQ Rd.s (show(w::r)[0]?=some w from rfl) (by rfl))) (show w=((w.toNat:Nat):Int) by omega)) ?_
      refine J 10 ?_
      refine .c call188 rfl (l9 (A:=sl aP 1 w3 (w::r)) (n:=0) (Rd.sl .here) (by simp) (by rw[List.length_cons];omega)) fun u145 _=>?_
      rw[show(w::r).eraseIdx 0=r from rfl]
      refine J 2 ?_
      refine .aw rfl (af.vy sizeOf23 rfl rfl rfl) ?_
      rintro _ _ ⟨rfl,rfl⟩
      refine J 7 ?_
      refine .to (A:=cE dO dP (blk v.u) (cB v.u+a.i.n.toNat * 4) ({u with bz:=r })) (Bs:=[arr (blk v.u) (cB v.u+a.i.n.toNat * 4) [.int .i64 ({u with bz:=r }).room,w1,w2,u145],sl cM 1 w1 ({u with bz:=r }).words,sl eO 2 w2 ({u with bz:=r }).bN,sl aP 1 u145 ({u with bz:=r }).bz]) .auto ma ?_
      refine .to (A:=eI dO 4 dP v.u ((a.done a.i.n x 0).s.jv.set a.i.n.toNat ({u with bz:=r }))) (Bs:=[cE dO dP (blk v.u) (cB v.u+a.i.n.toNat * 4) ({u with bz:=r }),gM dO 4 dP v.u (a.done a.i.n x 0).s.jv a.i.n.toNat]) .auto (fX ({u with bz:=r })) ?_
      refine .c call126 rfl (jo (a:=((a.done a.i.n x 0).w ((a.done a.i.n x 0).s.oy a.i.n.toNat {u with bz:=r }))) (n:=w.toNat) (y:=x) (by omega) (fM.done (a:=a) (x:=a.i.n) (y:=x) (e:=0) hk.T (by decide) _).i (by show a.late.length≤_;have:=hk.l;omega) (by show a.e.aL.length≤_;have:=hk.w;omega)) fun _ _=>?_
      refine J 5 ?_
      rw[G0 h76,uF hu h102 hgt]
      exact JR 0 ()
     ·have hgt:u.bz=[]:=List.eq_nil_of_length_eq_zero (by have h:¬(0:Int)<(u.bz.length:Int):=h133;omega)
      refine J 9 ?_
      refine .aw rfl (af.gN 38 rfl rfl (by kernel_rfl)) ?_
      rintro _ _ ⟨b158,rfl,rfl⟩
      refine .aw rfl (af.fb (enc:=cM) (k:=1) x rfl underlying55 underlying55 typeInfo38 rfl rfl rfl (by decide) rfl rfl rfl .auto rfl .auto (by have:=hpw.1;omega) rfl) ?_
      rintro _ _ ⟨v159,rfl,rfl⟩
      refine J 2 ?_
      refine .aw rfl (af.vy sizeOf55 rfl rfl rfl) ?_
      rintro _ _ ⟨rfl,rfl⟩
      refine J 2 ?_
      refine .to (A:=cE dO dP (blk v.u) (cB v.u+a.i.n.toNat * 4) ({u with words:=u.words++[x] })) (Bs:=[arr (blk v.u) (cB v.u+a.i.n.toNat * 4) [.int .i64 ({u with words:=u.words++[x] }).room,v159,w2,w3],sl cM 1 v159 ({u with words:=u.words++[x] }).words,sl eO 2 w2 ({u with words:=u.words++[x] }).bN,sl aP 1 w3 ({u with words:=u.words++[x] }).bz]) .auto ma ?_
      refine .to (A:=eI dO 4 dP v.u ((a.done a.i.n x 0).s.jv.set a.i.n.toNat ({u with words:=u.words++[x] }))) (Bs:=[cE dO dP (blk v.u) (cB v.u+a.i.n.toNat * 4) ({u with words:=u.words++[x] }),gM dO 4 dP v.u (a.done a.i.n x 0).s.jv a.i.n.toNat]) .auto (fX ({u with words:=u.words++[x] })) ?_
      rw[G0 h76,yo hu h102 hgt]
      exact JR 0 ()
   ·refine JD 6 (fun h162=>?_) fun h162=>?_
    ·refine .draw [] [1,1,1,1,1,1,1,1,3] rfl (by kernel_rfl) ?_
     refine J 1 ?_
     have hlt:a.i.n.toNat<a.s.jv.length:=by have:=hk.o5 (by omega);omega
     obtain⟨u,hu⟩:=aB hlt
     have hpw:=hk.pw u (List.mem_of_getElem? hu)
     refine .fo (fun w st=>st.fact .auto (eU (Nat.lt_of_le_of_lt (Nat.zero_le _) hlt))) fun hSP=>?_
     refine J 6 ?_
     refine .p (.tn a.i.n.toNat underlying59 sizeOf140 rfl rfl hSP (show a.i.n=((a.i.n.toNat:Nat):Int) by omega) hlt) ?_
     refine .c call189 rfl (G3 hk hu) fun _ _=>?_
     refine J 2 ?_
     rw[Ky h162]
     exact JR 0 ()
    ·refine JD 6 (fun h173=>?_) fun h173=>?_
     ·refine JD 8 (fun h197=>?_) fun h197=>?_
      ·refine J 3 ?_
       refine .c call129 rfl (cv (a:=a) (x:=x) (y:=0) (e:=0) hk.n (by show a.s.au.length≤_;have:=hk.r;omega) (by decide)) fun _ _=>?_
       refine J 3 ?_
       rw[EW h173,Be h197]
       exact JR 0 ()
      ·refine JD 7 (fun h203=>?_) fun h203=>?_
       ·refine J 3 ?_
        refine .c call129 rfl (cv (a:=a) (x:=x) (y:=0) (e:=1) hk.n (by show a.s.au.length≤_;have:=hk.r;omega) (by decide)) fun _ _=>?_
        refine J 3 ?_
        rw[EW h173,uI h197 h203]
        exact JR 0 ()
       ·refine J 7 ?_
        refine .p (.gp underlying38 underlying3 rfl (by omega)) ?_
        refine .p (.add rfl rfl (by omega)) ?_
        refine JD 10 (fun h183=>?_) fun h183=>?_
        ·refine J 5 ?_
         refine .draw [] [1,1,1,1,1,1,1,1,1,1,3] rfl (by kernel_rfl) ?_
         refine J 6 ?_
         refine .p (.add rfl rfl (by omega)) ?_
         refine J 2 ?_
         refine .p (.aF _ underlying61 sizeOf3 rfl rfl rfl (by first | omega | exact hn | decide)) ?_
         refine .d3 rfl (af.Jh sizeOf3 rfl rfl (by omega)) ?_
         rintro _ _ ⟨rfl,rfl⟩
         refine J 5 ?_
         refine .c call133 rfl (gi (a:=(a.w {a.s with til:=dR a.s.til a.n (1099511627776+1) })) (why:=8) (into:=0) (x:=x) (y:=0) hk.n (by show a.s.au.length≤_;have:=hk.r;omega)) fun _ _=>?_
         refine J 3 ?_
         rw[EW h173,sL h197 h203 (t:=1099511627776+1) (by omega)]
         exact JR 0 ()
        ·refine J 3 ?_
         refine .draw [] [1,1,1,1,1,1,1,1,1,1,3] rfl (by kernel_rfl) ?_
         refine J 6 ?_
         refine .p (.add rfl rfl (by omega)) ?_
         refine J 2 ?_
         refine .p (.aF _ underlying61 sizeOf3 rfl rfl rfl (by first | omega | exact hn | decide)) ?_
         refine .d3 rfl (af.Jh sizeOf3 rfl rfl (by omega)) ?_
         rintro _ _ ⟨rfl,rfl⟩
         refine J 5 ?_
         refine .c call133 rfl (gi (a:=(a.w {a.s with til:=dR a.s.til a.n (a.s.now+x+1) })) (why:=8) (into:=0) (x:=x) (y:=0) hk.n (by show a.s.au.length≤_;have:=hk.r;omega)) fun _ _=>?_
         refine J 3 ?_
         rw[EW h173,sL h197 h203 (t:=a.s.now+x+1) (by omega)]
         exact JR 0 ()
     ·refine J 3 ?_
      refine .c call129 rfl (cv (a:=a) (x:=x) (y:=0) (e:=0) hk.n (by show a.s.au.length≤_;have:=hk.r;omega) (by decide)) fun _ _=>?_
      refine J 2 ?_
      rw[Kz h27 h27b h76 h162 h173]
      exact JR 0 ()
set_option maxHeartbeats 2000000 in
theorem EY{W:World}{ba b:Nat}{v:RV}{a:RA}{choice:Int}(hk:uA a):Fn Tryz.prog W 91 [ptr ba,.int .i64 choice] [cA ba b v a] Unit (fun _=>.tuple #[]) (fun _=>True) (fun _=>[cA ba b v (a.call choice)]):=by
 refine Fn.intro (N:=272) func91 rfl ntmps91 rfl fun F=>?_
 show ax _ _ _ _ _ _ [cA ba b v a,F]
 refine .o2 (C:=cA ba b v (a)) .auto rfl ?_
 rintro vw vl -
 refine .fr (A:=cp b v (a).s) .auto bB ?_
 have hn:=hk.n
 have hnn:=hk.nn
 have hI:=hk.I
 have hIn:=hI.n
 have hIa:=hI.a
 have hIb:=hI.b
 have hx64:=(hk.T a.n).r a.i.a.toNat
 have hy64:=(hk.T a.n).r a.i.b.toNat
 have hoo:=hk.oo
 refine J 1 ?_
 refine .draw [arr ba 0 (lf b (a) vw vl)] [0,0,0,0,0,0,0,0,2,1,3] rfl (by kernel_rfl) ?_
 refine J 7 ?_
 refine .q (.la rfl (Cells.lG (ds:=dC a.i) (Cells.a (cs:=lf b a vw vl)) rfl)) ?_
 refine .d2 rfl Kept.auto (af.alloc rfl zeroValue131 rfl) (by rintro _ _ ⟨b5,rfl,rfl⟩;exact Kept.auto) ?_
 rintro _ _ ⟨b5,rfl,rfl⟩
 refine J 1 ?_
 refine .d3 rfl (af.tf (by exact sizeOf131) rfl rfl rfl (by rfl)) ?_
 rintro _ _ ⟨rfl,rfl⟩
 refine J 3 ?_
 refine .draw [] [1,1,1,1,1,1,1,1,1,1,1,1,1,1,1,1,1,1,1,1,1,1,1,1,1,1,1,1] rfl (by kernel_rfl) ?_
 refine J 9 ?_
 refine .p (.aF _ underlying54 sizeOf53 rfl rfl rfl (by first | omega | exact hn | decide)) ?_
 refine J 1 ?_
 refine .p (.aF a.i.a.toNat underlying39 sizeOf38 rfl rfl (by omega) (by omega)) ?_
 refine .p (.ld rfl (Cell.tr (by first | omega | exact hn) (by omega))) ?_
 refine J 9 ?_
 refine .p (.aF _ underlying54 sizeOf53 rfl rfl rfl (by first | omega | exact hn | decide)) ?_
 refine J 1 ?_
 refine .p (.aF a.i.b.toNat underlying39 sizeOf38 rfl rfl (by omega) (by omega)) ?_
 refine .p (.ld rfl (Cell.tr (by first | omega | exact hn) (by omega))) ?_
 refine JD 17 (fun h51=>?_) fun h51=>?_
 ·refine J 5 ?_
  refine .p (.gp underlying38 underlying3 rfl (by omega)) ?_
  refine J 1 ?_
  refine .c call68 rfl (uv (s:=a.s) (f:=a.i.n) (arg:=((a.s.thr a.n).av a.i.b.toNat))) fun _ _=>?_
  refine JD 10 (fun h60=>?_) fun h60=>?_
  ·refine .fr (A:=cp b v (a.s.begin a.i.n ((a.s.thr a.n).av a.i.b.toNat)).2) .auto bB ?_
   refine J 1 ?_
   refine .draw [] [1,1,1,1,1,1,1,1,1,1,1,1,3] rfl (by kernel_rfl) ?_
   refine J 9 ?_
   refine .p (.aF _ underlying54 sizeOf53 rfl rfl rfl (by first | omega | exact hn | decide)) ?_
   refine J 1 ?_
   refine .p (.aF a.i.a.toNat underlying39 sizeOf38 rfl rfl (by omega) (by omega)) ?_
   refine .d3 rfl (af.qN sizeOf38 rfl rfl (by first | omega | exact hn) (by first | omega | decide)) ?_
   rintro _ _ ⟨rfl,rfl⟩
   refine J 7 ?_
   refine .c call129 rfl (cv (a:=((a.sp ((a.s.thr a.n).av a.i.b.toNat)).aj ((a.sp ((a.s.thr a.n).av a.i.b.toNat)).t.put a.i.a 0))) (x:=a.i.n) (y:=0) (e:=2) hk.n (by show(a.sp ((a.s.thr a.n).av a.i.b.toNat)).s.au.length≤_;rw[show(a.sp ((a.s.thr a.n).av a.i.b.toNat)).s.au=a.s.au from qE];have:=hk.r;omega) (by decide)) fun _ _=>?_
   refine J 5 ?_
   rw[Jm h51,show a.spawn (a.t.eW a.i.b)=_ from EX h60]
   exact JR 0 ()
  ·refine J 3 ?_
   refine .draw [] [1,1,1,1,1,1,1,1,1,1,1,1,1,1,1,1,1,1,1,3] rfl (by kernel_rfl) ?_
   have hbn:=Cq h60
   refine .fr (A:=cp b v (a.s.begin a.i.n ((a.s.thr a.n).av a.i.b.toNat)).2) .auto bB ?_
   refine J 11 ?_
   refine .p (.aF (a.s.begin a.i.n ((a.s.thr a.n).av a.i.b.toNat)).1.toNat underlying54 sizeOf53 rfl rfl hbn.1 hbn.2) ?_
   refine J 1 ?_
   refine .p (.ld rfl (Cell.t (by first | omega | exact hn) rfl)) ?_
   refine J 2 ?_
   refine .p (.aF _ underlying54 sizeOf53 rfl rfl rfl (by first | omega | exact hn | decide)) ?_
   refine J 1 ?_
   refine .p (.aF a.i.a.toNat underlying39 sizeOf38 rfl rfl (by omega) (by omega)) ?_
   refine .d3 rfl (af.qN sizeOf38 rfl rfl (by first | omega | exact hn) (by first | omega | decide)) ?_
   rintro _ _ ⟨rfl,rfl⟩
   refine J 6 ?_
   refine .aw rfl (af.gN 3 rfl rfl (by kernel_rfl)) ?_
   rintro _ _ ⟨b98,rfl,rfl⟩
   refine .to (A:=sl aP 1 (.slice (some ⟨b98,0,none⟩) 1 1) [(a.s.begin a.i.n ((a.s.thr a.n).av a.i.b.toNat)).1]) (Bs:=[arr b98 0 [.int .i64 (a.s.begin a.i.n ((a.s.thr a.n).av a.i.b.toNat)).1]]) .auto (vo _ rfl (fun _ _=>rfl) (by simp[rows,aP])) ?_
   refine J 3 ?_
   refine .aw rfl (af.pn sizeOf23 rfl rfl rfl) ?_
   rintro _ _ ⟨rfl,rfl⟩
   refine J 2 ?_
   refine .draw [] [1,1,1,1,1,1,1,1,1,1,3] rfl (by kernel_rfl) ?_
   refine J 7 ?_
   refine .p (.aF (a.s.begin a.i.n ((a.s.thr a.n).av a.i.b.toNat)).1.toNat underlying54 sizeOf53 rfl rfl hbn.1 hbn.2) ?_
   refine J 1 ?_
   refine .p (.dJ (Y.load isAgg38 rfl (Cell.t (f:=((a.sp ((a.s.thr a.n).av a.i.b.toNat)).aj ((a.sp ((a.s.thr a.n).av a.i.b.toNat)).t.put a.i.a ((a.sp ((a.s.thr a.n).av a.i.b.toNat)).s.t (a.s.begin a.i.n ((a.s.thr a.n).av a.i.b.toNat)).1.toNat).handle)).s.thr) (n:=(a.s.begin a.i.n ((a.s.thr a.n).av a.i.b.toNat)).1.toNat) (j:=1) hbn.2 rfl)) (show _=((a.sp ((a.s.thr a.n).av a.i.b.toNat)).s.t (a.s.begin a.i.n ((a.s.thr a.n).av a.i.b.toNat)).1.toNat).handle from sM)) ?_
   refine .c call129 rfl (cv (a:=(a.Ao ((a.s.thr a.n).av a.i.b.toNat) ((a.sp ((a.s.thr a.n).av a.i.b.toNat)).s.t (a.s.begin a.i.n ((a.s.thr a.n).av a.i.b.toNat)).1.toNat).handle (a.s.begin a.i.n ((a.s.thr a.n).av a.i.b.toNat)).1)) (x:=a.i.n) (y:=((a.sp ((a.s.thr a.n).av a.i.b.toNat)).s.t (a.s.begin a.i.n ((a.s.thr a.n).av a.i.b.toNat)).1.toNat).handle) (e:=0) hk.n (by show(a.sp ((a.s.thr a.n).av a.i.b.toNat)).s.au.length≤_;rw[show(a.sp ((a.s.thr a.n).av a.i.b.toNat)).s.au=a.s.au from qE];have:=hk.r;omega) (by decide)) fun _ _=>?_
   refine J 2 ?_
   rw[Jm h51,show a.spawn (a.t.eW a.i.b)=_ from Cr h60]
   exact JR 0 ()
 ·refine JD 6 (fun h113=>?_) fun h113=>?_
  ·refine J 1 ?_
   refine .draw [] [1,1,1,1,1,1,1,1,1,1,1,1,1,1,1,1,1,1,1,1,1,1,3] rfl (by kernel_rfl) ?_
   refine J 14 ?_
   refine .p (.aF _ underlying54 sizeOf53 rfl rfl rfl (by first | omega | exact hn | decide)) ?_
   refine J 1 ?_
   refine .p (.ld rfl (Cell.t (by first | omega | exact hn) rfl)) ?_
   refine J 2 ?_
   refine .p (.aF _ underlying54 sizeOf53 rfl rfl rfl (by first | omega | exact hn | decide)) ?_
   refine J 1 ?_
   refine .p (.aF a.i.a.toNat underlying39 sizeOf38 rfl rfl (by omega) (by omega)) ?_
   refine .d3 rfl (af.qN sizeOf38 rfl rfl (by first | omega | exact hn) (by first | omega | decide)) ?_
   rintro _ _ ⟨rfl,rfl⟩
   refine J 2 ?_
   refine .draw [] [1,1,1,1,1,1,1,1,1,1,1,3] rfl (by kernel_rfl) ?_
   refine J 8 ?_
   refine .p (.aF _ underlying54 sizeOf53 rfl rfl rfl (by first | omega | exact hn | decide)) ?_
   refine J 1 ?_
   refine .p (.dJ (Y.load isAgg38 rfl (Cell.t (f:=(a.aj (a.t.put a.i.a a.t.handle)).s.thr) (n:=a.n) (j:=1) hn rfl)) (show _=a.t.handle from sM)) ?_
   refine .c call129 rfl (cv (a:=(a.aj (a.t.put a.i.a a.t.handle))) (x:=0) (y:=a.t.handle) (e:=0) hk.n (by show a.s.au.length≤_;have:=hk.r;omega) (by decide)) fun _ _=>?_
   refine J 2 ?_
   rw[KA h113]
   exact JR 0 ()
  ·refine JD 6 (fun h149=>?_) fun h149=>?_
   ·refine J 3 ?_
    refine .c call129 rfl (cv (a:=a) (x:=0) (y:=0) (e:=0) hk.n (by show a.s.au.length≤_;have:=hk.r;omega) (by decide)) fun _ _=>?_
    refine J 3 ?_
    refine .o2 (C:=cA ba b v (a.done 0 0 0)) .auto rfl ?_
    rintro vw vl -
    refine J 5 ?_
    rw[EU]
    refine J 2 ?_
    rw[KB h149]
    exact JR 0 ()
   ·refine JD 6 (fun h157=>?_) fun h157=>?_
    ·refine J 3 ?_
     refine .c call130 rfl (EV (h:=((a.s.thr a.n).av a.i.b.toNat)) hk.n (by have:=hk.r;omega) hI) fun _ _=>?_
     refine J 2 ?_
     rw[KC h157,show a.join (a.t.eW a.i.b)=a.join ((a.s.thr a.n).av a.i.b.toNat) from rfl]
     exact JR 0 ()
    ·refine JD 6 (fun h162=>?_) fun h162=>?_
     ·refine J 4 ?_
      refine .c call131 rfl (uy (h:=((a.s.thr a.n).av a.i.a.toNat)) hk.n) fun _ _=>?_
      refine J 1 ?_
      refine .o2 (C:=cA ba b v (a)) .auto rfl ?_
      rintro vw vl -
      refine .fr (A:=cp b v (a).s) .auto bB ?_
      refine .p (.extract (v:=.int .i64 (a.other ((a.s.thr a.n).av a.i.a.toNat)).1) rfl rfl) ?_
      refine .p (.extract (v:=.int .i64 (a.other ((a.s.thr a.n).av a.i.a.toNat)).2) rfl rfl) ?_
      refine J 10 ?_
      apply aS.gr 9 181 172 [172,173,174,175,176,177,178,179,180,181] rfl
      ·intro h172
       have ho:=kx h172
       refine J 4 ?_
       refine .g (.aF (a.other ((a.s.thr a.n).av a.i.a.toNat)).1.toNat underlying54 sizeOf53 rfl rfl ho.1 ho.2.1) ?_
       refine J 1 ?_
       refine .g (.ld rfl (Cell.t (by first | omega | exact hn) rfl)) ?_
       exact JS 3
      ·intro h172
       exact JS 10
      refine JD 2 (fun h181=>?_) fun h181=>?_
      ·simp only[Bool.and_eq_true,decide_eq_true_eq] at h181
       refine J 1 ?_
       have ho:=kx h181.1
       refine J 4 ?_
       refine .p (.aF (a.other ((a.s.thr a.n).av a.i.a.toNat)).1.toNat underlying54 sizeOf53 rfl rfl ho.1 ho.2.1) ?_
       refine J 1 ?_
       refine .aw rfl (af.A8 sizeOf4 rfl rfl (by first | omega | exact hn)) ?_
       rintro _ _ ⟨rfl,rfl⟩
       refine J 6 ?_
       refine .c call129 rfl (cv (a:=({a with s:=a.s.aj (a.other ((a.s.thr a.n).av a.i.a.toNat)).1.toNat {a.s.t (a.other ((a.s.thr a.n).av a.i.a.toNat)).1.toNat with used:=false } }:RA)) (x:=((a.s.thr a.n).av a.i.a.toNat)) (y:=0) (e:=(a.other ((a.s.thr a.n).av a.i.a.toNat)).2) hk.n (by show a.s.au.length≤_;have:=hk.r;omega) (by have:=jm (thr:=a.s.thr) (self:=a.n) (h:=((a.s.thr a.n).av a.i.a.toNat)) (f:=16) (n:=0);show 0≤(cz _ _ _ _ _).2∧(cz _ _ _ _ _).2≤11;omega)) fun _ _=>?_
       refine J 2 ?_
       rw[G4 h162,show a.cO (a.t.eW a.i.a)=_ from GY h181.1 (kx h181.1).1 h181.2]
       exact JR 0 ()
      ·simp only[Bool.and_eq_false_iff,decide_eq_false_iff_not] at h181
       refine JD 6 (fun h189=>?_) fun h189=>?_
       ·refine J 1 ?_
        have ho:=kx h189
        refine J 4 ?_
        refine .p (.aF (a.other ((a.s.thr a.n).av a.i.a.toNat)).1.toNat underlying54 sizeOf53 rfl rfl ho.1 ho.2.1) ?_
        refine J 1 ?_
        refine .aw rfl (af.Lq sizeOf4 rfl rfl (by first | omega | exact hn)) ?_
        rintro _ _ ⟨rfl,rfl⟩
        refine J 6 ?_
        refine .c call129 rfl (cv (a:=({a with s:=a.s.aj (a.other ((a.s.thr a.n).av a.i.a.toNat)).1.toNat {a.s.t (a.other ((a.s.thr a.n).av a.i.a.toNat)).1.toNat with pq:=true } }:RA)) (x:=((a.s.thr a.n).av a.i.a.toNat)) (y:=0) (e:=(a.other ((a.s.thr a.n).av a.i.a.toNat)).2) hk.n (by show a.s.au.length≤_;have:=hk.r;omega) (by have:=jm (thr:=a.s.thr) (self:=a.n) (h:=((a.s.thr a.n).av a.i.a.toNat)) (f:=16) (n:=0);show 0≤(cz _ _ _ _ _).2∧(cz _ _ _ _ _).2≤11;omega)) fun _ _=>?_
        refine J 2 ?_
        rw[G4 h162,show a.cO (a.t.eW a.i.a)=_ from Ji h189 (kx h189).1 (fun e=>by rcases h181 with h | h;exact h h189;exact h e)]
        exact JR 0 ()
       ·refine J 6 ?_
        refine .c call129 rfl (cv (a:=a) (x:=((a.s.thr a.n).av a.i.a.toNat)) (y:=0) (e:=(a.other ((a.s.thr a.n).av a.i.a.toNat)).2) hk.n (by show a.s.au.length≤_;have:=hk.r;omega) (by have:=jm (thr:=a.s.thr) (self:=a.n) (h:=((a.s.thr a.n).av a.i.a.toNat)) (f:=16) (n:=0);show 0≤(cz _ _ _ _ _).2∧(cz _ _ _ _ _).2≤11;omega)) fun _ _=>?_
        refine J 2 ?_
        rw[G4 h162,show a.cO (a.t.eW a.i.a)=_ from GZ h189]
        exact JR 0 ()
     ·refine JD 6 (fun h200=>?_) fun h200=>?_
      ·refine J 4 ?_
       refine .c call88 rfl (lg (a:=a) (x:=((a.s.thr a.n).av a.i.a.toNat)) (y:=0) (e:=0) (fin:=true) hk.n (by have:=hk.r;omega)) fun _ _=>?_
       refine J 5 ?_
       refine .c call89 rfl (wD (a:=a.say ((a.s.thr a.n).av a.i.a.toNat) 0 0 true) (x:=((a.s.thr a.n).av a.i.a.toNat)) hk.n hk.T (by show a.late.length≤_;have:=hk.l;omega) (by show a.e.aL.length≤_;have:=hk.w;omega)) fun _ _=>?_
       refine J 2 ?_
       rw[KD h200,show(a.say (a.t.eW a.i.a) 0 0 true).fin (a.t.eW a.i.a)=(a.say ((a.s.thr a.n).av a.i.a.toNat) 0 0 true).fin ((a.s.thr a.n).av a.i.a.toNat) from rfl]
       exact JR 0 ()
      ·refine JD 7 (fun h208=>?_) fun h208=>?_
       ·refine J 2 ?_
        first | refine ax.dK rfl (fun _=>?_) (fun hc=>absurd h208 hc) | refine ax.cond rfl (fun _=>?_) (fun hc=>by rw[h208] at hc;cases hc)
        refine J 3 ?_
        refine .c call132 rfl (mc hk (by omega)) fun _ _=>?_
        refine J 2 ?_
        rw[nu (by omega)]
        exact JR 0 ()
       ·refine JD 6 (fun h208=>?_) fun h208=>?_
        ·refine J 2 ?_
         first | refine ax.dK rfl (fun _=>?_) (fun hc=>absurd h208 hc) | refine ax.cond rfl (fun _=>?_) (fun hc=>by rw[h208] at hc;cases hc)
         refine J 3 ?_
         refine .c call132 rfl (mc hk (by omega)) fun _ _=>?_
         refine J 2 ?_
         rw[nu (by omega)]
         exact JR 0 ()
        ·refine JD 6 (fun h208=>?_) fun h208=>?_
         ·refine J 2 ?_
          first | refine ax.dK rfl (fun _=>?_) (fun hc=>absurd h208 hc) | refine ax.cond rfl (fun _=>?_) (fun hc=>by rw[h208] at hc;cases hc)
          refine J 3 ?_
          refine .c call132 rfl (mc hk (by omega)) fun _ _=>?_
          refine J 2 ?_
          rw[nu (by omega)]
          exact JR 0 ()
         ·refine JD 6 (fun h208=>?_) fun h208=>?_
          ·refine J 2 ?_
           first | refine ax.dK rfl (fun _=>?_) (fun hc=>absurd h208 hc) | refine ax.cond rfl (fun _=>?_) (fun hc=>by rw[h208] at hc;cases hc)
           refine J 3 ?_
           refine .c call132 rfl (mc hk (by omega)) fun _ _=>?_
           refine J 2 ?_
           rw[nu (by omega)]
           exact JR 0 ()
          ·refine JD 5 (fun h208=>?_) fun h208=>?_
           ·refine J 3 ?_
            refine .c call132 rfl (mc hk (by omega)) fun _ _=>?_
            refine J 2 ?_
            rw[nu (by omega)]
            exact JR 0 ()
           ·refine JD 6 (fun h217=>?_) fun h217=>?_
            ·refine J 2 ?_
             refine .draw [] [1,1,1,1,1,1,1,1,1] rfl (by kernel_rfl) ?_
             have hlt:a.i.n.toNat<a.s.sw.length:=by have:=hk.o4 (by omega);have:=hk.sl.2;omega
             have hsw:a.s.sw[a.i.n.toNat]?=some (a.s.sw.getD a.i.n.toNat []):=getD_some hlt
             have hsr:=hk.sw _ (List.mem_of_getElem? hsw)
             have hls:a.i.n.toNat<a.s.bX.length:=by have:=hk.o4 (by omega);omega
             have hse:a.s.bX[a.i.n.toNat]?=some (a.s.bX.getD a.i.n.toNat 0):=getD_some hls
             have hsv:=hk.sc _ (List.mem_of_getElem? hse)
             refine .o1 (C:=jl aP 1 b 315 a.s.bX) .auto rfl ?_
             rintro vs -
             refine J 6 ?_
             refine .p (.hY a.i.n.toNat underlying23 sizeOf3 rfl rfl Rd.s (show a.i.n=((a.i.n.toNat:Nat):Int) by omega) hls) ?_
             refine .p (.lr rfl hse) ?_
             refine JD 3 (fun h227=>?_) fun h227=>?_
             ·refine J 1 ?_
              refine .draw [] [1,1,1,1,1,1,1,1,1,1,3] rfl (by kernel_rfl) ?_
              refine J 6 ?_
              refine .p (.hY a.i.n.toNat underlying23 sizeOf3 rfl rfl Rd.s (show a.i.n=((a.i.n.toNat:Nat):Int) by omega) hls) ?_
              refine .p (.lr rfl hse) ?_
              refine J 1 ?_
              refine .p (.hY a.i.n.toNat underlying23 sizeOf3 rfl rfl Rd.s (show a.i.n=((a.i.n.toNat:Nat):Int) by omega) hls) ?_
              refine .d3 rfl (af.gE (x':=(a.s.bX.getD a.i.n.toNat 0)-1) rfl rfl sizeOf3 rfl hse (by decide) rfl .auto) ?_
              rintro _ _ ⟨rfl,rfl⟩
              refine J 7 ?_
              refine .c call129 rfl (cv (a:=(a.w {a.s with bX:=a.s.bX.set a.i.n.toNat ((a.s.bX.getD a.i.n.toNat 0)-1) })) (x:=a.i.n) (y:=0) (e:=0) hk.n (by show a.s.au.length≤_;have:=hk.r;omega) (by decide)) fun _ _=>?_
              refine J 5 ?_
              rw[Jn h217,Bc h227]
              exact JR 0 ()
             ·refine .o1 (C:=KX b a.s.sw) .auto rfl ?_
              rintro vS -
              refine .fo (fun w st=>st.fact .auto (eU (Nat.lt_of_le_of_lt (Nat.zero_le _) hlt))) fun hS=>?_
              refine .fr .auto (fL (enc:=cj) (k:=1) (inner:=jQ) (fun _=>rfl) hsw) ?_
              refine .o1 (C:=cE cj jQ (blk vS) (cB vS+a.i.n.toNat * 1) (a.s.sw.getD a.i.n.toNat [])) .auto rfl ?_
              rintro uS -
              rw[show jQ (uS,(a.s.sw.getD a.i.n.toNat []))=sl aP 1 uS (a.s.sw.getD a.i.n.toNat []) from rfl,show cj (uS,(a.s.sw.getD a.i.n.toNat []))=[uS] from rfl]
              refine J 3 ?_
              refine .draw [arr ba 0 (lf b (a) vw vl),arr b 316 [vS],arr (blk vS) (cB vS+a.i.n.toNat * 1) [uS],arr b5 0 (dC a.i)] [0,0,0,0,0,0,0,0,0,0,0,0,0,0,1,1,1,1,2,2,1,3] rfl (by kernel_rfl) ?_
              refine J 12 ?_
              refine .q (.tn a.i.n.toNat underlying58 sizeOf23 rfl rfl hS (show a.i.n=((a.i.n.toNat:Nat):Int) by omega) hlt) ?_
              refine J 5 ?_
              refine .d2 rfl Kept.auto (af.gN 3 rfl rfl (by kernel_rfl)) (by rintro _ _ ⟨b260,rfl,rfl⟩;exact Kept.auto) ?_
              rintro _ _ ⟨b260,rfl,rfl⟩
              refine .d2 rfl Kept.auto (af.fb (enc:=aP) (k:=1) (a.n:Int) rfl underlying23 underlying23 typeInfo3 rfl rfl rfl (by decide) rfl rfl rfl .auto rfl .auto (by have:=hsr.1;omega) rfl) (by rintro _ _ ⟨v261,rfl,rfl⟩;exact Kept.auto) ?_
              rintro _ _ ⟨v261,rfl,rfl⟩
              refine .p (.tn a.i.n.toNat underlying58 sizeOf23 rfl rfl hS (show a.i.n=((a.i.n.toNat:Nat):Int) by omega) hlt) ?_
              refine .d3 rfl (af.m6 sizeOf23 rfl rfl rfl) ?_
              rintro _ _ ⟨rfl,rfl⟩
              refine J 6 ?_
              refine .to (A:=eI cj 1 jQ vS (a.s.sw.set a.i.n.toNat ((a.s.sw.getD a.i.n.toNat [])++[(a.n:Int)]))) (Bs:=[cE cj jQ (blk vS) (cB vS+a.i.n.toNat * 1) ((a.s.sw.getD a.i.n.toNat [])++[(a.n:Int)]),gM cj 1 jQ vS a.s.sw a.i.n.toNat]) .auto (fX ((a.s.sw.getD a.i.n.toNat [])++[(a.n:Int)])) ?_
              refine .c call133 rfl (gi (a:=(a.w {a.s with sw:=a.s.sw.set a.i.n.toNat ((a.s.sw.getD a.i.n.toNat [])++[(a.n:Int)]) })) (why:=3) (into:=0) (x:=a.i.n) (y:=0) hk.n (by show a.s.au.length≤_;have:=hk.r;omega)) fun _ _=>?_
              refine J 2 ?_
              rw[Jn h217,uD h227]
              exact JR 0 ()
            ·refine JD 6 (fun h267=>?_) fun h267=>?_
             ·refine J 3 ?_
              refine .c call134 rfl (Jl hk h267) fun _ _=>?_
              refine J 2 ?_
              rw[KE h267]
              exact JR 0 ()
             ·refine J 4 ?_
              refine .c call135 rfl (zJ (x:=((a.s.thr a.n).av a.i.a.toNat)) (y:=((a.s.thr a.n).av a.i.b.toNat)) hk (by omega) hx64 hy64) fun _ _=>?_
              refine J 2 ?_
              rw[H5 (by omega),show a.kernel (a.t.eW a.i.a) (a.t.eW a.i.b)=a.kernel ((a.s.thr a.n).av a.i.a.toNat) ((a.s.thr a.n).av a.i.b.toNat) from rfl]
              exact JR 0 ()
end Go.SLYtefdijgllbkmfaaGreat
namespace Go.SLYtefdijgllbkmfaaGreat
open Go Go.RowKit
theorem EZ{v:bI}{t:RT}{x:Value×List Ins}(h:v.fs[t.fn.toNat]?=some x):gy v.p t=x.2[t.pc.toNat]?:=by
 unfold gy bI.p
 simp only
 rw[List.getD_eq_getElem?_getD,List.getElem?_map,h];rfl
def eV(p:eB)(s:RSp)(n:Nat)(choice:Int):RA:=match gy p (s.t n) with
  | none=>((⟨s,n,⟨23,0,0,0,0⟩,iY.z,[]⟩:RA).say 0 0 0 true).fin 0
  | some i=>if i.op≤19 then (⟨s,n,i,iY.z,[]⟩:RA).plain else ((⟨s,n,i,iY.z,[]⟩:RA).aj {s.t n with pc:=(s.t n).pc+1 }).call choice
theorem KF{p:eB}{s:RSp}{n:Nat}{choice:Int}:s.run p n choice=((eV p s n choice).e,{(eV p s n choice).s with au:=(eV p s n choice).s.au++(eV p s n choice).late }):=rfl
theorem uL{p:eB}{s:RSp}{n:Nat}{choice:Int}(h:gy p (s.t n)=none):eV p s n choice=((⟨s,n,⟨23,0,0,0,0⟩,iY.z,[]⟩:RA).say 0 0 0 true).fin 0:=by unfold eV;rw[h]
theorem sN{p:eB}{s:RSp}{n:Nat}{choice:Int}{i:Ins}(h:gy p (s.t n)=some i)(h2:i.op≤19):eV p s n choice=(⟨s,n,i,iY.z,[]⟩:RA).plain:=by unfold eV;rw[h];exact if_pos h2
theorem uM{p:eB}{s:RSp}{n:Nat}{choice:Int}{i:Ins}(h:gy p (s.t n)=some i)(h2:¬i.op≤19):eV p s n choice=((⟨s,n,i,iY.z,[]⟩:RA).aj {s.t n with pc:=(s.t n).pc+1 }).call choice:=by unfold eV;rw[h];exact if_neg h2
theorem yt{s:RSp}{k:Int}(h:s.ask.length=0):s.done k=(0,s):=by unfold RSp.done;exact if_pos h
def RSp.asked(s:RSp)(k:Int):RSp:={s with ask:=s.ask.eraseIdx (pick k s.ask.length) }
theorem sO{s:RSp}{k:Int}{r:pz}(h:¬s.ask.length=0)(hr:s.ask[pick k s.ask.length]?=some r)(hw:r.write=false) :
  s.done k=(r.who+1,{(s.asked k).di r.who.toNat (s.blk.getD r.block.toNat 0) with au:=s.au++[(s.t r.who.toNat).dH (s.blk.getD r.block.toNat 0)] }):=by
 unfold RSp.done;refine(if_neg h).trans ?_;simp only[bJ hr,hw];rfl
theorem qF{s:RSp}{k:Int}{r:pz}(h:¬s.ask.length=0)(hr:s.ask[pick k s.ask.length]?=some r)(hw:r.write=true) :
  s.done k=(r.who+1,{({s.asked k with blk:=s.blk.set r.block.toNat r.x }:RSp).di r.who.toNat 0 with au:=s.au++[(s.t r.who.toNat).dH 0] }):=by
 unfold RSp.done;refine(if_neg h).trans ?_;simp only[bJ hr,hw];rfl
def RSp.fa(s:RSp):RSp:={s with now:=if s.now<1099511627776 then s.now+1 else s.now }
def RSp.ky(s:RSp)(n:Nat):RSp:={({s with til:=dR s.til n 0 }:RSp).di n 0 with au:=s.au++[(s.t n).dH 0] }
structure jJ(s0:RSp)(n:Nat)(s:RSp)(out:List Int):Prop where
 hn:n≤16
 eq:rTick s (16-n) n out=rTick s0 16 0 []
 T:fM s
 tl:∀ m,0≤s.til m∧s.til m≤1099511627777
 nw:s.now=s0.now
 r:s.au.length≤s0.au.length+n
 o:out.length≤n
theorem jJ.zero{s:RSp}(hT:fM s)(ht:∀ m,0≤s.til m∧s.til m≤1099511627777):jJ s 0 s []:=⟨Nat.zero_le _,rfl,hT,ht,rfl,Nat.le_refl _,Nat.le_refl _⟩
theorem jJ.step{s0 s:RSp}{n:Nat}{out:List Int}(h:jJ s0 n s out)(hn:n<16):rTick s0 16 0 []=rTick s ((15-n)+1) n out:=by rw[← h.eq,show 16-n=(15-n)+1 from by omega]
theorem jJ.yes{s0 s:RSp}{n:Nat}{out:List Int}(h:jJ s0 n s out)(hn:n<16)(hc:0<s.til n∧s.til n-1≤s.now):jJ s0 (n+1) (s.ky n) (out++[(n:Int)]) :=
 ⟨hn,by rw[h.step hn,rTick,show 16-(n+1)=15-n from by omega];exact(if_pos hc).symm,fM.di (s:={s with til:=dR s.til n 0 }) h.T ⟨by decide,by decide⟩,fun m=>by
  show 0≤dR s.til n 0 m∧dR s.til n 0 m≤_
  unfold dR;split;exact⟨by decide,by decide⟩;exact h.tl m,h.nw,by show(s.au++[_]).length≤_;have:=h.r;rw[List.length_append,List.length_singleton];omega,by have:=h.o;rw[List.length_append,List.length_singleton];omega⟩
theorem jJ.no{s0 s:RSp}{n:Nat}{out:List Int}(h:jJ s0 n s out)(hn:n<16)(hc:¬(0<s.til n∧s.til n-1≤s.now)):jJ s0 (n+1) s out :=
 ⟨hn,by rw[h.step hn,rTick,show 16-(n+1)=15-n from by omega];exact(if_neg hc).symm,h.T,h.tl,h.nw,by have:=h.r;omega,by have:=h.o;omega⟩
theorem jJ.end{s0 s:RSp}{n:Nat}{out:List Int}(h:jJ s0 n s out)(hn:¬n<16):rTick s0 16 0 []=(out,s):=by
 have:=h.hn
 rw[← h.eq,show 16-n=0 from by omega,rTick]
end Go.SLYtefdijgllbkmfaaGreat
namespace Go.SLYtefdijgllbkmfaaGreat
open Go Go.RowKit Go.Proofs Go.Proofs.Tryz
attribute [local irreducible] ax aS bo bY bP Y
theorem E0{W:World}{A:aa}{b:Nat}{v:RV}{s:RSp}{n:Nat}(hp:eD W [A] v.p)(hn:n<16)(_hfs:v.p.fs.length≤1000000000)(hf:0≤(s.thr n).fn∧(s.thr n).fn<(v.p.fs.length:Int))(hpc:0≤(s.thr n).pc∧(s.thr n).pc≤900000)(hfl:∀ f∈v.p.fs,f.2.length≤1000000):Fn Tryz.prog W 87 [ptr b,.int .i64 (n:Int)] [cp b v s,A] Unit (fun _=>DM (gy v.p.p (s.t n))) (fun _=>True) (fun _=>[cp b v s,A]):=by
 refine Fn.intro (N:=40) func87 rfl ntmps87 rfl fun F=>?_
 haveI hI1:∀ (H:List aa) [cf H A],aJ W H v.p.fv cj 1 v.p.fs:=fun H h=>⟨hp.fs.at h.has⟩
 haveI hI2:∀ (H:List aa) [cf H A],aJ W H v.p.sv aP 1 v.p.aT:=fun H h=>⟨hp.aT.at h.has⟩
 haveI hI3:∀ (H:List aa) [cf H A],aJ W H v.p.pv aP 1 v.p.aC:=fun H h=>⟨hp.aC.at h.has⟩
 show ax _ _ _ _ _ _ [cp b v s,A,F]
 refine .fr (A:=cp b v s) .auto bB ?_
 obtain⟨x,hx⟩:=aB (show(s.thr n).fn.toNat<v.p.fs.length by omega)
 have hi:=hp.ins x (List.mem_of_getElem? hx)
 haveI hI4:∀ (H:List aa) [cf H A],aJ W H x.1 dC 5 x.2:=fun H h=>⟨hi.at h.has⟩
 have hxl:=hfl x (List.mem_of_getElem? hx)
 have hnx:gy v.p.p (s.t n)=x.2[(s.thr n).pc.toNat]?:=EZ hx
 refine J 2 ?_
 refine .aw rfl (af.alloc rfl zeroValue131 rfl) ?_
 rintro _ _ ⟨b4,rfl,rfl⟩
 refine J 9 ?_
 refine .p (.aF _ underlying54 sizeOf53 rfl rfl rfl (by first | omega | exact hn | decide)) ?_
 refine .p (.la rfl (Cells.t (by first | omega | exact hn))) ?_
 refine .aw rfl (af.alloc rfl zeroValue53 rfl) ?_
 rintro _ _ ⟨b6,rfl,rfl⟩
 refine J 5 ?_
 refine .draw [] [1,1,1,1,1,1,1,1,1,1,1,1,1] rfl (by kernel_rfl) ?_
 refine J 9 ?_
 refine .p (.hY (s.thr n).fn.toNat underlying22 sizeOf128 rfl rfl Rd.s (by omega) (by omega)) ?_
 refine .p (.lr rfl hx) ?_
 refine JD 4 (fun h25=>?_) fun h25=>?_
 ·refine J 2 ?_
  refine .p (.tu ([(.int .i64 0),(.int .i64 0),(.int .i64 0),(.int .i64 0),(.int .u64 0)]) (by kernel_rfl)) ?_
  refine J 6 ?_
  refine .jU rfl rfl isAgg131 (by exact sizeOf131) Cells.a rfl fun w s=>⟨(),?_,trivial,aq .auto s⟩
  rw[hnx,List.getElem?_eq_none (by omega)];rfl
 ·refine J 3 ?_
  refine .draw [] [1,1,1,1,1,1,1,1,1,1,1,1,1,3,1] rfl (by kernel_rfl) ?_
  refine J 7 ?_
  refine .p (.hY (s.thr n).fn.toNat underlying22 sizeOf128 rfl rfl Rd.s (by omega) (by omega)) ?_
  refine .p (.lr rfl hx) ?_
  refine J 1 ?_
  obtain⟨i,hi2⟩:=aB (show(s.thr n).pc.toNat<x.2.length by omega)
  refine J 1 ?_
  refine .p (.hY (s.thr n).pc.toNat underlying128 sizeOf131 rfl rfl Rd.s (by omega) (by omega)) ?_
  refine .p (.la rfl (Cells.rd Rd.s hi2)) ?_
  refine .d3 rfl (af.tf (by exact sizeOf131) rfl rfl rfl (by rfl)) ?_
  rintro _ _ ⟨rfl,rfl⟩
  refine J 4 ?_
  refine .jU rfl rfl isAgg131 (by exact sizeOf131) Cells.a rfl fun w s=>⟨(),?_,trivial,aq .auto s⟩
  rw[hnx,hi2];rfl
theorem E1{W:World}{b:Nat}{v:RV}{s:RSp}{k:Int}(hT:fM s)(ha:s.ask.length≤1000000)(hq:∀ r∈s.ask,(0≤r.who∧r.who<16)∧0≤r.block∧r.block<(s.blk.length:Int))(hr:s.au.length≤900000000):Fn Tryz.prog W 43 [ptr b,.int .i64 k] [cp b v s] Unit (fun _=>.int .i64 (s.done k).1) (fun _=>True) (fun _=>[cp b v (s.done k).2]):=by
 refine Fn.intro (N:=83) func43 rfl ntmps43 rfl fun F=>?_
 show ax _ _ _ _ _ _ [cp b v s,F]
 refine .fr (A:=cp b v s) .auto bB ?_
 refine .o1 (C:=jl dY 4 b 319 s.ask) .auto rfl ?_
 rintro va -
 refine .o1 (C:=jl cM 1 b 318 s.blk) .auto rfl ?_
 rintro vb -
 refine .o1 (C:=jl dp 6 b 337 s.au) .auto rfl ?_
 rintro vr -
 refine JD 16 (fun h13=>?_) fun h13=>?_
 ·refine J 7 ?_
  rw[yt (by omega)]
  exact JR 0 ()
 ·refine J 4 ?_
  have hpk:(pick k s.ask.length)<s.ask.length:=eX (by omega)
  obtain⟨r,hrk⟩:=aB hpk
  obtain⟨⟨hw0,hw16⟩,hb0,hb1⟩:=hq r (List.mem_of_getElem? hrk)
  have hbk:s.blk[r.block.toNat]?=some (s.blk.getD r.block.toNat 0):=getD_some (by omega)
  have hr0:Rd W [sl dY 4 va s.ask] dY 4 va s.ask:=Rd.sl .here
  have hr1:=hr0.cut (lo:=0) (hi:=(pick k s.ask.length)) (Nat.zero_le _) (by omega)
  have hr2:=hr0.cut (lo:=(pick k s.ask.length)+1) (hi:=s.ask.length) (by omega) (Nat.le_refl _)
  haveI hI1:∀ (H:List aa) [cf H (sl dY 4 va s.ask)],aJ W H (cut 4 0 (pick k s.ask.length) va) dY 4 ((s.ask.take (pick k s.ask.length)).drop 0):=fun H h=>⟨hr1.at h.has⟩
  haveI hI2:∀ (H:List aa) [cf H (sl dY 4 va s.ask)],aJ W H (cut 4 ((pick k s.ask.length)+1) s.ask.length va) dY 4 ((s.ask.take s.ask.length).drop ((pick k s.ask.length)+1)):=fun H h=>⟨hr2.at h.has⟩
  refine J 6 ?_
  refine .c call94 rfl (oW (c:=k) (n:=s.ask.length) (by omega) (by omega)) fun _ _=>?_
  refine J 10 ?_
  refine .p (.hY (pick k s.ask.length) underlying60 sizeOf175 rfl rfl Rd.s rfl hpk) ?_
  refine .p (.la rfl (Cells.rd Rd.s hrk)) ?_
  refine .aw rfl (af.alloc rfl zeroValue175 rfl) ?_
  rintro _ _ ⟨b6,rfl,rfl⟩
  refine J 4 ?_
  refine .draw [arr b 319 [va],sl dY 4 va s.ask] [0,2,0,0,0,0,0,0,2,0,0,0,0,0,0,0,2,1,1,3] rfl (by kernel_rfl) ?_
  refine J 1 ?_
  refine .d2 rfl Kept.auto (af.gN 175 rfl rfl (by kernel_rfl)) (by rintro _ _ ⟨b29,rfl,rfl⟩;exact Kept.auto) ?_
  rintro _ _ ⟨b29,rfl,rfl⟩
  refine .to (A:=sl dY 4 (.slice (some ⟨b29,0,none⟩) 0 0) ([]:List pz)) (Bs:=[]) .nil (fun h e=>.inl ⟨⟨_,rfl⟩,rfl,e⟩) ?_
  refine J 5 ?_
  refine .q (.sliceTo (pick k s.ask.length) underlying60 sizeOf175 rfl rfl Rd.s rfl (by omega)) ?_
  refine .d2 rfl Kept.auto (af.append rfl underlying60 underlying60 typeInfo175 rfl rfl rfl (by decide) rfl rfl .auto Rd.s (by simp only[List.length_nil,List.length_drop,List.length_take];omega) (rK _)) (by rintro _ _ ⟨v36,rfl,rfl⟩;exact Kept.auto) ?_
  rintro _ _ ⟨v36,rfl,rfl⟩
  refine J 6 ?_
  refine .q (.sliceFrom ((pick k s.ask.length)+1) underlying60 sizeOf175 rfl rfl Rd.s rfl (by omega)) ?_
  refine .d2 rfl Kept.auto (af.append rfl underlying60 underlying60 typeInfo175 rfl rfl rfl (by decide) rfl rfl .auto Rd.s (by simp only[List.length_nil,List.length_append,List.length_drop,List.length_take];omega) (rK _)) (by rintro _ _ ⟨v44,rfl,rfl⟩;exact Kept.auto) ?_
  rintro _ _ ⟨v44,rfl,rfl⟩
  refine J 2 ?_
  refine .d3 rfl (af.m6 sizeOf60 rfl rfl rfl) ?_
  rintro _ _ ⟨rfl,rfl⟩
  refine J 3 ?_
  refine .draw [] [1,1,1,1,1,1,1,1,1] rfl (by kernel_rfl) ?_
  refine J 6 ?_
  refine .p (.ix r.block.toNat rfl rfl (by omega) (by omega)) ?_
  refine .p (.lr rfl hbk) ?_
  refine JD 10 (fun h56=>?_) fun h56=>?_
  ·refine J 1 ?_
   rw[mH]
   refine .draw [] [1,1,1,1,1,1,1,1,1,3] rfl (by kernel_rfl) ?_
   refine J 8 ?_
   refine .p (.ix r.block.toNat rfl rfl (by omega) (by omega)) ?_
   refine .d3 rfl (af.gE (x':=r.x) rfl rfl sizeOf38 rfl hbk (by decide) rfl .auto) ?_
   rintro _ _ ⟨rfl,rfl⟩
   refine J 7 ?_
   refine .draw [arr b 337 [vr],arr b6 0 (dY r)] [0,0,0,0,0,1,1,1,1,2,2,2,1,1,3] rfl (by kernel_rfl) ?_
   refine J 7 ?_
   refine .p (.dJ (Y.load isAgg3 rfl (Cell.a (cs:=dY r) rfl)) (show r.who=((r.who.toNat:Nat):Int) by omega)) ?_
   refine J 1 ?_
   refine .c2 call95 rfl (oX (f:=s.thr) (n:=r.who.toNat) (y:=0) (by omega) (hT _).i) fun _ _=>?_
   refine .d2 rfl Kept.auto (af.gN 101 rfl rfl (by kernel_rfl)) (by rintro _ _ ⟨b76,rfl,rfl⟩;exact Kept.auto) ?_
   rintro _ _ ⟨b76,rfl,rfl⟩
   refine .d2 rfl Kept.auto (af.fb (enc:=dp) (k:=6) ((s.thr r.who.toNat).dH 0) rfl underlying49 underlying49 typeInfo101 rfl rfl rfl (by decide) rfl rfl rfl .auto rfl .auto (by omega) rfl) (by rintro _ _ ⟨v77,rfl,rfl⟩;exact Kept.auto) ?_
   rintro _ _ ⟨v77,rfl,rfl⟩
   refine J 2 ?_
   refine .d3 rfl (af.m6 sizeOf49 rfl rfl rfl) ?_
   rintro _ _ ⟨rfl,rfl⟩
   refine J 6 ?_
   refine .p (.add rfl rfl (by omega)) ?_
   refine J 4 ?_
   rw[qF (by omega) hrk h56]
   exact JR 0 ()
  ·refine J 3 ?_
   rw[mH]
   refine .draw [arr b 337 [vr],arr b6 0 (dY r)] [0,0,0,0,0,1,1,1,1,2,2,2,1,1,3] rfl (by kernel_rfl) ?_
   refine J 7 ?_
   refine .p (.dJ (Y.load isAgg3 rfl (Cell.a (cs:=dY r) rfl)) (show r.who=((r.who.toNat:Nat):Int) by omega)) ?_
   refine J 1 ?_
   refine .c2 call95 rfl (oX (f:=s.thr) (n:=r.who.toNat) (y:=(s.blk.getD r.block.toNat 0)) (by omega) (hT _).i) fun _ _=>?_
   refine .d2 rfl Kept.auto (af.gN 101 rfl rfl (by kernel_rfl)) (by rintro _ _ ⟨b76,rfl,rfl⟩;exact Kept.auto) ?_
   rintro _ _ ⟨b76,rfl,rfl⟩
   refine .d2 rfl Kept.auto (af.fb (enc:=dp) (k:=6) ((s.thr r.who.toNat).dH (s.blk.getD r.block.toNat 0)) rfl underlying49 underlying49 typeInfo101 rfl rfl rfl (by decide) rfl rfl rfl .auto rfl .auto (by omega) rfl) (by rintro _ _ ⟨v77,rfl,rfl⟩;exact Kept.auto) ?_
   rintro _ _ ⟨v77,rfl,rfl⟩
   refine J 2 ?_
   refine .d3 rfl (af.m6 sizeOf49 rfl rfl rfl) ?_
   rintro _ _ ⟨rfl,rfl⟩
   refine J 6 ?_
   refine .p (.add rfl rfl (by omega)) ?_
   refine J 4 ?_
   rw[sO (by omega) hrk h56]
   exact JR 0 ()
theorem E2{W:World}{b:Nat}{v:RV}{s:RSp}(hT:fM s)(ht:∀ m,0≤s.til m∧s.til m≤1099511627777)(hr:s.au.length≤800000000)(hw:0≤s.now∧s.now≤1099511627776):Fn Tryz.prog W 45 [ptr b] [cp b v s] Value (fun u=>u) (fun _=>True) (fun u=>[sl aP 1 u s.tick.1,cp b v s.tick.2]):=by
 refine Fn.intro (N:=65) func45 rfl ntmps45 rfl fun F=>?_
 show ax _ _ _ _ _ _ [cp b v s,F]
 refine .fr (A:=cp b v s) .auto bB ?_
 have hR0:=jJ.zero (s:=s.fa) hT ht
 refine J 5 ?_
 refine .mX (X:=Unit) [5,6,7,8,9,10,11,12,13,14,15,16] (fun _=>True) (fun _=>[]) (fun _=>[cp b v s.fa,F]) ?_ ?_
 ·refine JD 9 (fun h9=>?_) fun h9=>?_
  ·refine J 5 ?_
   refine .p (.add rfl rfl (by omega)) ?_
   refine J 2 ?_
   refine .aw rfl (af.HP sizeOf3 rfl rfl rfl rfl) ?_
   rintro _ _ ⟨rfl,rfl⟩
   refine J 1 ?_
   refine .eK () .auto ?_ ?_ ?_
   ·trivial
   ·exact trivial
   ·rw[show s.fa = {s with now:=s.now+1 } from by unfold RSp.fa;rw[if_pos h9]];exact fun w s=>aK.kept .auto w s
  ·refine J 1 ?_
   refine .eK () .auto ?_ ?_ ?_
   ·trivial
   ·exact trivial
   ·rw[show s.fa=s from by unfold RSp.fa;rw[if_neg h9]];exact fun w s=>aK.kept .auto w s
 ·rintro⟨⟩ -
  refine J 2 ?_
  refine .aw rfl (af.gN 3 rfl rfl (by kernel_rfl)) ?_
  rintro _ _ ⟨b17,rfl,rfl⟩
  refine .to (A:=sl aP 1 (.slice (some ⟨b17,0,none⟩) 0 0) ([]:List Int)) (Bs:=[]) .nil (fun h e=>.inl ⟨⟨_,rfl⟩,rfl,e⟩) ?_
  refine J 10 ?_
  refine .da (X:=Nat×RSp×Value×List Int) [3,4,18,19,20,21,22,23,24,25,26,27,28,29,30,31,32,33,34,35,36,37,38,39,40,41,42,43,44,45,46,47,48,49,50,51,52,53,54,55,56,57,58,59,60,61,62,63] (fun z=>16-z.1) (fun z=>jJ s.fa z.1 z.2.1 z.2.2.2) (fun z=>[(4,some (.int .i64 (z.1:Int))),(3,some z.2.2.1)]) (fun z=>[sl aP 1 z.2.2.1 z.2.2.2,cp b v z.2.1,F]) (0,s.fa,.slice (some ⟨b17,0,none⟩) 0 0,[]) ?_ ?_ ?_ ?_
  ·exact hR0
  ·exact⟨rfl,rfl,trivial⟩
  ·exact fun w s=>aK.kept .auto w s
  rintro⟨k,r,u,out⟩ hR
  simp only at hR
  have hro:=hR.o
  have hrr:r.au.length≤s.au.length+k:=hR.r
  refine .fr (A:=cp b v r) .auto bB ?_
  refine .o1 (C:=jl dp 6 b 337 (r).au) .auto rfl ?_
  rintro vr -
  refine JD 7 (fun h19=>?_) fun h19=>?_
  ·refine J 5 ?_
   refine .draw [] [1,1,1,1,1,1,1,1,1,1,1,1,1,1,1,1,1,1,1,1,1] rfl (by kernel_rfl) ?_
   refine J 4 ?_
   refine .p (.aF _ underlying61 sizeOf3 rfl rfl rfl (by first | omega | exact hn | decide)) ?_
   refine .p (.ld rfl (Cell.tl (by omega))) ?_
   refine J 2 ?_
   apply bo.gr 13 42 29 [29,30,31,32,33,34,35,36,37,38,39,40,41,42] rfl
   ·intro h29
    refine J 4 ?_
    refine .g (.aF _ underlying61 sizeOf3 rfl rfl rfl (by first | omega | exact hn | decide)) ?_
    refine .g (.ld rfl (Cell.tl (by omega))) ?_
    refine .g (.sub rfl rfl (by have:=hR.tl k;dsimp only;omega)) ?_
    exact JS 7
   ·intro h29
    exact JS 14
   refine JD 2 (fun h42=>?_) fun h42=>?_
   ·simp only[Bool.and_eq_true,decide_eq_true_eq] at h42
    refine J 6 ?_
    refine .p (.aF _ underlying61 sizeOf3 rfl rfl rfl (by first | omega | exact hn | decide)) ?_
    refine .aw rfl (af.Jh sizeOf3 rfl rfl (by omega)) ?_
    rintro _ _ ⟨rfl,rfl⟩
    refine J 3 ?_
    refine .draw [arr b 337 [vr]] [0,0,0,0,0,1,1,2,2,2,1,1,3] rfl (by kernel_rfl) ?_
    refine J 7 ?_
    refine .c2 call95 rfl (oX (f:=r.thr) (n:=k) (y:=0) (by omega) (hR.T _).i) fun _ _=>?_
    refine .d2 rfl Kept.auto (af.gN 101 rfl rfl (by kernel_rfl)) (by rintro _ _ ⟨b56,rfl,rfl⟩;exact Kept.auto) ?_
    rintro _ _ ⟨b56,rfl,rfl⟩
    refine .d2 rfl Kept.auto (af.fb (enc:=dp) (k:=6) ((r.thr k).dH 0) rfl underlying49 underlying49 typeInfo101 rfl rfl rfl (by decide) rfl rfl rfl .auto rfl .auto (by omega) rfl) (by rintro _ _ ⟨v57,rfl,rfl⟩;exact Kept.auto) ?_
    rintro _ _ ⟨v57,rfl,rfl⟩
    refine J 2 ?_
    refine .d3 rfl (af.m6 sizeOf49 rfl rfl rfl) ?_
    rintro _ _ ⟨rfl,rfl⟩
    refine J 5 ?_
    refine .aw rfl (af.gN 3 rfl rfl (by kernel_rfl)) ?_
    rintro _ _ ⟨b62,rfl,rfl⟩
    refine .aw rfl (af.fb (enc:=aP) (k:=1) (k:Int) rfl underlying23 underlying23 typeInfo3 rfl rfl rfl (by decide) rfl rfl rfl .auto rfl .auto (by dsimp only;omega) rfl) ?_
    rintro _ _ ⟨v63,rfl,rfl⟩
    refine J 9 ?_
    refine .bq (k+1,r.ky k,v63,out++[(k:Int)]) .auto rfl ?_ ?_ ?_ ?_
    ·show 16-(k+1)<16-k;omega
    ·exact hR.yes (by omega) ⟨h42.1,h42.2⟩
    ·exact⟨rfl,rfl,trivial⟩
    ·exact fun w s=>aK.kept .auto w s
   ·simp only[Bool.and_eq_false_iff,decide_eq_false_iff_not] at h42
    refine J 8 ?_
    refine .bq (k+1,r,u,out) .auto rfl ?_ ?_ ?_ ?_
    ·show 16-(k+1)<16-k;omega
    ·exact hR.no (by omega) (fun h=>by rcases h42 with e | e;exact e h.1;exact e h.2)
    ·exact⟨rfl,rfl,trivial⟩
    ·exact fun w s=>aK.kept .auto w s
  ·refine J 12 ?_
   rw[show s.tick=(out,r) from hR.end (by omega)]
   exact JR 0 u
end Go.SLYtefdijgllbkmfaaGreat
namespace Go.SLYtefdijgllbkmfaaGreat
open Go Go.RowKit
variable{p0:eB}
def l8(f:Nat→Int):List Int:=[f 0,f 1,f 2,f 3,f 4,f 5,f 6,f 7]
theorem Jo{f:Nat→Int}{j:Nat}{v:Int}(hj:j<8):(l8 f).set j v=l8 (dR f j v):=by
 rcases j with _ | _ | _ | _ | _ | _ | _ | _ | j
 all_goals first | rfl | omega
theorem Jp{f:Nat→Int}{j:Nat}(hj:j<8):(l8 f).getD j 0=f j:=by
 rcases j with _ | _ | _ | _ | _ | _ | _ | _ | j
 all_goals first | rfl | omega
structure jw(L:Nat)(t:bF)(u:RT):Prop where
 us:u.used=true
 h:u.handle=t.handle
 w:u.why=t.why
 f:u.fn=t.fn
 p:u.pc=t.pc
 r:t.av=l8 u.av
 v:u.value=t.value
 d:u.pq=t.bn
 j:u.ar=t.ar+1
 o:u.op=t.op
 i:u.into=t.into+1
 fl:0≤t.fn∧t.fn<(L:Int)
section
variable{L:Nat}{t:bF}{u:RT}
theorem jw.eW(h:jw L t u){a:Int}(ha:0≤a∧a<8):u.eW a=t.eW a:=by
 unfold RT.eW bF.eW;rw[h.r,Jp (by omega)]
theorem jw.put(h:jw L t u){a v:Int}(ha:0≤a∧a<8):jw L (t.put a v) (u.put a v) :=
 ⟨h.us,h.h,h.w,h.f,h.p,(by show t.av.set a.toNat v=l8 (dR u.av a.toNat v);rw[h.r,Jo (by omega)]),h.v,h.d,h.j,h.o,h.i,h.fl⟩
theorem jw.cS(h:jw L t u)(hi : -1≤t.into∧t.into<8){y:Int}:jw L (t.cS y) (u.cS y):=by
 have hi2:=h.i
 unfold bF.cS RT.cS
 by_cases e:t.into = -1
 ·rw[if_pos e,if_pos (by omega)]
  have h1:=h.put (a:=7) (v:=0) ⟨by decide,by decide⟩
  exact⟨h1.us,h1.h,rfl,h1.f,h1.p,h1.r,h1.v,h1.d,h1.j,h1.o,rfl,h1.fl⟩
 ·rw[if_neg e,if_neg (by omega),show u.into-1=t.into from by omega]
  have h1:=(h.put (a:=t.into) (v:=y) ⟨by omega,by omega⟩).put (a:=7) (v:=0) ⟨by decide,by decide⟩
  exact⟨h1.us,h1.h,rfl,h1.f,h1.p,h1.r,h1.v,h1.d,h1.j,h1.o,rfl,h1.fl⟩
theorem jw.dH(h:jw L t u){y:Int}:u.dH y=t.dH y:=by
 have hi:=h.i
 unfold RT.dH bF.dH
 rw[h.h,h.o]
 by_cases e:t.into = -1
 ·rw[if_pos e,if_pos (by omega)]
 ·rw[if_neg e,if_neg (by omega)]
end
def iL(m:dt):gg:=⟨if m.held=true then m.owner+1 else 0,m.wait.map (·.who)⟩
def Jq:Option Int→Int
 | none=>0
 | some m=>m+1
structure fk(p0:eB)(s:Spc)(r:RSp):Prop where
 pg:s.dG=p0
 tk:∀ n:Nat,n<16→r.taken n=(s.table.getD n (false,0)).2
 no:∀ n:Nat,s.thr[n]?=some none→(r.thr n).used=false
 th:∀ (n:Nat) (t:bF),s.thr[n]?=some (some t)→jw s.dG.funcs.length t (r.thr n)
 T:fM r
 me:r.mem=s.mem
 mx:r.aD=s.ag.aD.map iL
 cd:r.bm=s.ag.bm
 sm:r.bX=s.ag.bX.map (·.count)
 sw:r.sw=s.ag.bX.map fun x=>x.wait.map (·.who)
 pp:r.jv=s.bx
 bk:r.blk=s.aN.blocks
 ak:r.ask=s.aN.wait
 nw:r.now=s.aA.now
 tl:∀ n:Nat,r.til n=Jq (cC s.aA.dV n)
 tp:∀ (n:Nat) (m:Int),cC s.aA.dV n=some m→0≤m∧m≤1099511627776
 rc:r.au=s.au
 tr:∀ u∈s.bx,(u.words.length:Int)≤u.room
 ow:∀ x∈s.ag.aD,x.held=true→0≤x.owner
 mw:∀ x∈s.ag.aD, ∀ y∈x.wait, ∃ t,s.at y.who=some t∧t.why=1
def nC(s:Spc)(w:Int):Prop:=∀ x∈s.ag.aD, ∀ y∈x.wait,y.who≠w
section
variable{s:Spc}{r:RSp}{n:Nat}{t t':bF}{u':RT}
theorem fk.aj(h:fk p0 s r)(ht:s.thr[n]?=some (some t))(hs:jw s.dG.funcs.length t' u')(hR:wR u')(hw:t'.why=t.why∨nC s n∨t'.why=1):fk p0 (s.aj n t') (r.aj n u'):=by
 have hn:=(List.getElem?_eq_some_iff.1 ht).1
 refine⟨h.pg,h.tk,fun m e=>?_,fun m t1 e=>?_,h.T.dR rfl hR,h.me,h.mx,h.cd,h.sm,h.sw,h.pp,h.bk,h.ak,h.nw,h.tl,h.tp,h.rc,h.tr,h.ow,fun x hx y hy=>?_⟩
 ·have e:(s.thr.set n (some t'))[m]?=some none:=e
  by_cases hm:n=m
  ·subst hm;rw[List.getElem?_set_self hn] at e;cases e
  ·rw[List.getElem?_set_ne hm] at e
   show(dR r.thr n u' m).used=false
   rw[jk (fun h=>hm h.symm)];exact h.no m e
 ·have e:(s.thr.set n (some t'))[m]?=some (some t1):=e
  show jw s.dG.funcs.length t1 (dR r.thr n u' m)
  by_cases hm:n=m
  ·subst hm;rw[List.getElem?_set_self hn] at e;cases e;rw[dz];exact hs
  ·rw[List.getElem?_set_ne hm] at e;rw[jk (fun h=>hm h.symm)];exact h.th m t1 e
 ·obtain⟨t1,a1,a2⟩:=h.mw x hx y hy
  rw[show(s.aj n t').at y.who=_ from jN hn y.who]
  by_cases e:y.who=(n:Int)
  ·rw[if_pos e]
   refine⟨t',rfl,?_⟩
   rw[e,oA ht] at a1;cases a1
   rcases hw with hw | hw | hw
   ·rw[hw];exact a2
   ·exact absurd e (hw x hx y hy)
   ·exact hw
  ·rw[if_neg e];exact⟨t1,a1,a2⟩
theorem Cs{l:List (Bool×Int)}{h:Int}{m:Nat}:((slotFreed l h).getD m (false,0)).2=(l.getD m (false,0)).2:=by
 unfold slotFreed
 cases bj l h with
 | none=>rfl
 | some n =>
  simp only
  by_cases e:n=m
  ·subst e
   by_cases hl:n<l.length
   ·rw[List.getD_eq_getElem?_getD (l:=l.set _ _),List.getElem?_set_self hl];rfl
   ·rw[List.set_eq_of_length_le (by omega)]
  ·rw[List.getD_eq_getElem?_getD,List.getElem?_set_ne e, ← List.getD_eq_getElem?_getD]
theorem fk.free(h:fk p0 s r)(ht:s.thr[n]?=some (some t))(hm:nC s n):fk p0 (s.free n) (r.aj n {r.t n with used:=false }):=by
 have hn:=(List.getElem?_eq_some_iff.1 ht).1
 have hR:=h.T n
 refine⟨h.pg,fun m hm=>?_,fun m e=>?_,fun m t1 e=>?_,h.T.dR rfl ⟨hR.r,hR.i,hR.j,hR.p,hR.v⟩,h.me,h.mx,h.cd,h.sm,h.sw,h.pp,h.bk,h.ak,h.nw,h.tl,h.tp,h.rc,h.tr,h.ow,fun x hx y hy=>?_⟩
 ·show r.taken m=((slotFreed s.table (s.t n).handle).getD m (false,0)).2
  rw[Cs];exact h.tk m hm
 ·have e:(s.thr.set n none)[m]?=some none:=e
  show(dR r.thr n {r.t n with used:=false } m).used=false
  by_cases hm:n=m
  ·subst hm;rw[dz]
  ·rw[List.getElem?_set_ne hm] at e;rw[jk (fun h=>hm h.symm)];exact h.no m e
 ·have e:(s.thr.set n none)[m]?=some (some t1):=e
  show jw s.dG.funcs.length t1 (dR r.thr n {r.t n with used:=false } m)
  by_cases hm:n=m
  ·subst hm;rw[List.getElem?_set_self hn] at e;cases e
  ·rw[List.getElem?_set_ne hm] at e;rw[jk (fun h=>hm h.symm)];exact h.th m t1 e
 ·obtain⟨t1,a1,a2⟩:=h.mw x hx y hy
  have e:=hm x hx y hy
  refine⟨t1,?_,a2⟩
  rw[show(s.free n).at y.who=({s with thr:=s.thr.set n none }:Spc).at y.who from rfl,jN hn,if_neg e];exact a1
end
/-! an instruction on its way -/
structure aV(p0:eB)(d:Dng)(a:RA):Prop where
 s:fk p0 d.s a.s
 n:a.n=d.n
 i:a.i=d.i
 e:a.e=d.out
 l:a.late=d.ends
section
variable{d:Dng}{a:RA}{t:bF}{x y e:Int}
theorem aV.th(h:aV p0 d a)(ht:d.s.thr[d.n]?=some (some t)):jw d.s.dG.funcs.length t a.t:=by
 have:=h.s.th d.n t ht;rw[← h.n] at this;exact this
theorem aV.say(h:aV p0 d a)(ht:d.s.thr[d.n]?=some (some t)){fin:Bool}:aV p0 (d.tell x y e fin) (a.say x y e fin):=by
 have hT:=h.th ht
 refine⟨⟨h.s.pg,h.s.tk,h.s.no,h.s.th,h.s.T,h.s.me,h.s.mx,h.s.cd,h.s.sm,h.s.sw,h.s.pp,h.s.bk,h.s.ak,h.s.nw,h.s.tl,h.s.tp,?_,h.s.tr,h.s.ow,h.s.mw⟩,h.n,h.i,h.e,h.l⟩
 show a.s.au++[⟨a.t.handle,a.i.op,x,y,e,fin⟩]=d.s.au++[⟨d.t.handle,d.i.op,x,y,e,fin⟩]
 rw[h.s.rc,h.i,hT.h,bZ ht]
theorem aV.aj(h:aV p0 d a)(ht:d.s.thr[d.n]?=some (some t)){t':bF}{u':RT}(hs:jw d.s.dG.funcs.length t' u')(hR:wR u')(hw:t'.why=t.why∨nC d.s d.n∨t'.why=1):aV p0 (d.aj t') (a.aj u'):=by
 refine⟨?_,h.n,h.i,h.e,h.l⟩
 show fk p0 (d.s.aj d.n t') (a.s.aj a.n u')
 rw[h.n];exact h.s.aj ht hs hR hw
theorem aV.put(h:aV p0 d a)(ht:d.s.thr[d.n]?=some (some t)){i v:Int}(hi:0≤i∧i<8)(hv:ff v):aV p0 (d.aj (t.put i v)) (a.aj (a.t.put i v)) :=
 h.aj ht ((h.th ht).put hi) ((h.s.T a.n).put hv) (.inl rfl)
theorem aV.pass(h:aV p0 d a)(ht:d.s.thr[d.n]?=some (some t))(he:0≤e∧e≤11):aV p0 (d.pass x y e) (a.done x y e):=by
 unfold Dng.pass RA.done
 rw[bZ ht]
 have h1:=h.say ht (x:=x) (y:=y) (e:=e) (fin:=true)
 exact h1.put (t:=t) ht ⟨by decide,by decide⟩ ⟨he.1,by omega⟩
theorem aV.block(h:aV p0 d a)(ht:d.s.thr[d.n]?=some (some t)){why into into':Int}(hi : -1≤into∧into<8)(hi':into'=into+1)(hm:nC d.s d.n∨why=1):aV p0 (d.block why into x y) (a.stop why into' x y):=by
 subst hi'
 unfold Dng.block RA.stop
 rw[bZ ht]
 have h1:=h.say ht (x:=x) (y:=y) (e:=0) (fin:=false)
 have hT:=h.th ht
 have hR:=h.s.T a.n
 have h2:=h1.aj (t:=t) (t':={t with why:=why,op:=d.i.op,into:=into }) (u':={a.t with why:=why,op:=a.i.op,into:=into+1 }) ht ⟨hT.us,hT.h,rfl,hT.f,hT.p,hT.r,hT.v,hT.d,hT.j,by show a.i.op=d.i.op;rw[h.i],rfl,hT.fl⟩ ⟨hR.r,⟨by show 0≤into+1;omega,by show into+1≤8;omega⟩,hR.j,hR.p,hR.v⟩ (.inr hm)
 exact⟨h2.s,h2.n,h2.i,by show({a.e with bA:=true }:iY) = {d.out with bA:=true };rw[h.e],h2.l⟩
theorem aV.dW(h:aV p0 d a){n:Nat}{u:bF}(hu:d.s.thr[n]?=some (some u))(hi : -1≤u.into∧u.into<8)(hm:nC d.s n)(hy:ff y):aV p0 (d.dW n y) (a.free n y):=by
 have hT:=h.s.th n u hu
 have hs:=h.s.aj hu (hT.cS hi (y:=y)) ((h.s.T n).cS hy) (.inr (.inl hm))
 refine⟨?_,h.n,h.i,?_,?_⟩
 ·show fk p0 (d.s.aj n ((d.s.t n).cS y)) (a.s.aj n ((a.s.t n).cS y))
  rw[cV hu];exact hs
 ·show({a.e with aL:=a.e.aL++[(n:Int)] }:iY) = {d.out with aL:=d.out.aL++[(n:Int)] }
  rw[h.e]
 ·show a.late++[(a.s.t n).dH y]=d.ends++[(d.s.t n).dH y]
  rw[h.l,cV hu,show(a.s.t n).dH y=u.dH y from hT.dH]
theorem aV.off(h:aV p0 d a){n:Nat}{u:bF}(hu:d.s.thr[n]?=some (some u))(hm:nC d.s n):aV p0 (d.free n) ({a with s:=a.s.aj n {a.s.t n with used:=false } }:RA):=⟨h.s.free hu hm,h.n,h.i,h.e,h.l⟩
theorem aV.sI(h:aV p0 d a)(ht:d.s.thr[d.n]?=some (some t))(hm:nC d.s d.n):aV p0 (d.free d.n) a.sI:=by
 obtain⟨az,an,ai,ae,al⟩:=a
 obtain rfl:an=d.n:=h.n
 exact h.off ht hm
theorem aV.fin(h:aV p0 d a)(ht:d.s.thr[d.n]?=some (some t))(hm:nC d.s d.n)
  (hj:¬t.ar = -1→nC d.s t.ar∧0≤t.ar∧t.ar.toNat≠d.n∧ ∃ u,d.s.thr[t.ar.toNat]?=some (some u)∧(-1≤u.into∧u.into<8)) {v:Int} (hv:ff v):aV p0 (d.fin v) (a.fin v):=by
 have hT:=h.th ht
 have hR:=h.s.T a.n
 have h1:aV p0 d.ended a.ending:=⟨h.s,h.n,h.i,by show({a.e with ended:=true }:iY) = {d.out with ended:=true };rw[h.e],h.l⟩
 have hTd:=hT.d
 have hTj:=hT.j
 unfold RA.fin
 cases hd:t.bn with
 | true =>
  rw[vK ht hd,if_neg (by rw[hTd,hd];simp),if_neg (by rw[hTd,hd];simp)]
  exact h1.sI ht hm
 | false =>
  by_cases e:t.ar = -1
  ·rw[rZ ht hd e,if_pos ⟨by rw[hTd,hd],by rw[hTj,e];rfl⟩]
   exact h1.aj (t:=t) (t':={t with why:=9,value:=v }) (u':={a.t with why:=9,value:=v }) ht ⟨hT.us,hT.h,rfl,hT.f,hT.p,hT.r,rfl,hT.d,hT.j,hT.o,hT.i,hT.fl⟩ ⟨hR.r,hR.i,hR.j,hR.p,hv⟩ (.inr (.inl hm))
  ·rw[r8 ht hd e,if_neg (fun h=>e (by have:=h.2;omega)),if_pos (by rw[hTd,hd])]
   obtain⟨j1,j2,j3,u,j4,j5⟩:=hj e
   rw[show(a.t.ar-1).toNat=t.ar.toNat from by omega]
   have h2:=h1.dW (n:=t.ar.toNat) (u:=u) j4 j5 (by rw[show((t.ar.toNat:Nat):Int)=t.ar from by omega];exact j1) hv
   exact h2.sI (t:=t) (cn ht j3) hm
/-! who is asked for -/
theorem pZ{thr:Nat→RT}{self:Nat}{h:Int}:∀ {f n:Nat},(∀ m,n≤m→m<n+f→(thr m).used=false∨¬(thr m).handle=h∨m=self∨(thr m).pq=true)→cz thr self h f n=(0,3)
 | 0,n,_=>rfl
 | f+1,n,hh=>by
  rw[cz];try simp only
  rw[if_pos (hh n (Nat.le_refl _) (by omega))]
  exact pZ (fun m a b=>hh m (by omega) (by omega))
theorem uN{thr:Nat→RT}{self:Nat}{h:Int}{m:Nat}(hm:¬((thr m).used=false∨¬(thr m).handle=h∨m=self∨(thr m).pq=true)):∀ {f n:Nat},n≤m→m<n+f→
  (∀ j,n≤j→j<m→(thr j).used=false∨¬(thr j).handle=h∨j=self∨(thr j).pq=true)→cz thr self h f n=if ¬(thr m).ar=0 then (0,4) else ((m:Int),0)
 | 0,n,a,b,_=>absurd b (by omega)
 | f+1,n,a,b,hh=>by
  rw[cz];try simp only
  by_cases e:n=m
  ·subst e;rw[if_neg hm]
  ·rw[if_pos (hh n (Nat.le_refl _) (by omega))]
   exact uN hm (by omega) (by omega) (fun j x y=>hh j (by omega) y)
variable{k:Nat}{p q:List Int}
theorem aV.other(h:aV p0 d a)(hO:Ok k d.s p q):a.other x=(((d.other x).1:Int),(d.other x).2):=by
 unfold RA.other
 have key:∀ m,m<16→(a.s.thr m).used=true→ ∃ u,d.s.thr[m]?=some (some u)∧jw d.s.dG.funcs.length u (a.s.thr m):=fun m hm hus=>by
  obtain⟨o,ho⟩:=aB (show m<d.s.thr.length by rw[hO.lt];exact hm)
  cases o with
  | none=>rw[h.s.no m ho] at hus;cases hus
  | some u=>exact⟨u,ho,h.s.th m u ho⟩
 have uni:∀ m u,d.s.thr[m]?=some (some u)→u.handle=x→bj d.s.table x=some m:=fun m u hu e=>by
  have hm:m<16:=hO.lt ▸ (List.getElem?_eq_some_iff.1 hu).1
  rw[← e,(hO.th m u hu).h]
  exact xH hm hO.ll ((hO.us m hm).2 ⟨u,hu⟩) (by
   have:(d.s.table.getD m (false,0))∈d.s.table:=List.mem_of_getElem? (getD_some (by rw[hO.ll];exact hm))
   exact(hO.tk _ this).1)
 cases hf:bj d.s.table x with
 | none =>
  rw[ot hf]
  refine pZ (fun m _ hm=>?_)
  by_cases hus:(a.s.thr m).used=true
  ·obtain⟨u,hu,hs⟩:=key m (by omega) hus
   refine .inr (.inl fun e=>?_)
   rw[hs.h] at e;rw[uni m u hu e] at hf;cases hf
  ·exact .inl (by simpa using hus)
 | some m =>
  obtain⟨u,hu⟩:=pS hO x m hf
  have hm16:m<16:=hO.lt ▸ (List.getElem?_eq_some_iff.1 hu).1
  have hs:=h.s.th m u hu
  obtain⟨-, -, -,hh⟩:=vA hf
  have hh:u.handle=x:=by rw[(hO.th m u hu).h];exact hh
  have skip:∀ j,j≠m→j<16→(a.s.thr j).used=false∨¬(a.s.thr j).handle=x∨j=a.n∨(a.s.thr j).pq=true:=fun j hj h16=>by
   by_cases hus:(a.s.thr j).used=true
   ·obtain⟨u',hu',hs'⟩:=key j h16 hus
    refine .inr (.inl fun e=>?_)
    rw[hs'.h] at e;have:=uni j u' hu' e;rw[hf] at this;cases this;exact hj rfl
   ·exact .inl (by simpa using hus)
  by_cases c:m=d.n∨u.bn=true
  ·rw[jc hf hu c]
   refine pZ (fun j _ hj=>?_)
   by_cases e:j=m
   ·subst e
    rcases c with c | c
    ·exact .inr (.inr (.inl (c.trans h.n.symm)))
    ·exact .inr (.inr (.inr (hs.d.trans c)))
   ·exact skip j e (by omega)
  ·have hsj:=hs.j
   rw[uN (m:=m) (by
    rintro(e | e | e | e)
    ·rw[hs.us] at e;cases e
    ·exact e (hs.h.trans hh)
    ·exact c (.inl (e.trans h.n))
    ·exact c (.inr (hs.d.symm.trans e))) (Nat.zero_le _) (by omega) (fun j _ hj=>skip j (by omega) (by omega))]
   by_cases hj:u.ar = -1
   ·rw[ou hf hu c hj,if_neg (fun h=>h (by omega))]
   ·rw[kS hf hu c hj,if_pos (by omega)];rfl
/-! a thread begins -/
theorem Bf{thr:Nat→RT}:∀ (l:List (Bool×Int)) (k:Nat),(∀ j,j<l.length→(l.getD j (false,0)).1=(thr (k+j)).used)→rFree? thr l.length k=slotFree? l k
 | [],_,_=>rfl
 | o::l,k,h=>by
  have h0:o.1=(thr k).used:=h 0 (by simp)
  rw[List.length_cons,rFree?,slotFree?,h0]
  split
  ·exact Bf l (k+1) (fun j hj=>by
    have:=h (j+1) (by simpa using hj)
    rw[show k+1+j=k+(j+1) from by omega];exact this)
  ·rfl
theorem fk.H6{s:Spc}{r:RSp}(h:fk p0 s r)(hO:Ok k s p q):rFree? r.thr 16 0=slotFree? s.table 0:=by
 have:=Bf (thr:=r.thr) s.table 0 (fun j hj=>by
  rw[hO.ll] at hj
  rw[Nat.zero_add]
  have hus:=hO.us j hj
  obtain⟨o,ho⟩:=aB (show j<s.thr.length by rw[hO.lt];exact hj)
  cases o with
  | none =>
   rw[h.no j ho]
   cases hb:(s.table.getD j (false,0)).1 with
   | false=>rfl
   | true=>obtain⟨t,ht⟩:=hus.1 hb;rw[ho] at ht;cases ht
  | some u=>rw[(h.th j u ho).us];exact hus.2 ⟨u,ho⟩)
 rw[hO.ll] at this;exact this
theorem yu:∀ (l:List (Bool×Int)) (i n:Nat),slotFree? l i=some n→i≤n∧n<i+l.length∧(l.getD (n-i) (false,0)).1=false
 | [],i,n,h=>by cases h
 | o::l,i,n,h=>by
  unfold slotFree? at h
  split at h
  ·have:=yu l (i+1) n h
   refine⟨by omega,by simp only[List.length_cons];omega,?_⟩
   rw[show n-i=(n-(i+1))+1 from by omega];exact this.2.2
  ·cases h;rename_i hb
   refine⟨Nat.le_refl _,by simp only[List.length_cons];omega,?_⟩
   rw[Nat.sub_self];simpa using hb
theorem Ct{tk:Int}{n:Nat}(h:0≤tk∧tk≤1000000)(hn:n<16):lb (gO (tk+1)) n=dn (tk+1) n:=by
 unfold lb dn gO;omega
theorem fk.begin{s:Spc}{r:RSp}(h:fk p0 s r)(hO:Ok k s p q)(hk:k≤1000000){f arg:Int}(hf:0≤f∧f<(s.dG.funcs.length:Int))(ha:ff arg){n:Nat}(hn:slotFree? s.table 0=some n) :
  n<16∧r.begin f arg=((n:Int),r.begun n f arg)∧fk p0 (s.begin f arg).2.2 (r.begun n f arg)∧s.thr[n]?=some none∧((r.begun n f arg).thr n).handle=dn ((s.table.getD n (false,0)).2+1) n∧ff (dn ((s.table.getD n (false,0)).2+1) n):=by
 obtain⟨-,hlt,hfr⟩:=yu _ _ _ hn
 rw[hO.ll] at hlt
 rw[Nat.sub_zero] at hfr
 have h16:n<16:=by omega
 have hnl:n<s.thr.length:=by rw[hO.lt];exact h16
 have hnt:n<s.table.length:=by rw[hO.ll];exact h16
 have hno:s.thr[n]?=some none:=by
  obtain⟨o,ho⟩:=aB hnl
  cases o with
  | none=>exact ho
  | some u=>have:=(hO.us n h16).2 ⟨u,ho⟩;rw[hfr] at this;cases this
 have htk:=hO.tk _ (List.mem_of_getElem? (getD_some (d:=(false,(0:Int))) hnt))
 have htkn:=h.tk n h16
 have hw:gO (r.taken n+1)=(s.table.getD n (false,0)).2+1:=by rw[htkn];unfold gO;omega
 have hh:lb (gO (r.taken n+1)) n=dn ((s.table.getD n (false,0)).2+1) n:=by rw[htkn];exact Ct (by omega) h16
 have hW:ff (dn ((s.table.getD n (false,0)).2+1) n):=by unfold dn ff;omega
 refine⟨h16,by unfold RSp.begin;rw[h.H6 hO,hn],?_,hno,by show(dR r.thr n _ n).handle=_;rw[dz];exact hh,hW⟩
 rw[dU hn]
 refine⟨h.pg,fun m hm=>?_,fun m e=>?_,fun m t1 e=>?_,h.T.dR rfl ⟨fun j=>?_,⟨Int.le_refl 0,(by decide:(0:Int)≤8)⟩,⟨Int.le_refl 0,(by decide:(0:Int)≤16)⟩,⟨Int.le_refl 0,(by decide:(0:Int)≤1000000)⟩,⟨Int.le_refl 0,(by decide:(0:Int)≤18446744073709551615)⟩⟩,h.me,h.mx,h.cd,h.sm,h.sw,h.pp,h.bk,h.ak,h.nw,h.tl,h.tp,h.rc,h.tr,h.ow,fun x hx y hy=>?_⟩
 ·show dR r.taken n (gO (r.taken n+1)) m=((s.table.set n (true,(s.table.getD n (false,0)).2+1)).getD m (false,0)).2
  by_cases e:n=m
  ·subst e;rw[dz,List.getD_eq_getElem?_getD (l:=s.table.set _ _),List.getElem?_set_self hnt];exact hw
  ·rw[jk (fun h=>e h.symm),List.getD_eq_getElem?_getD,List.getElem?_set_ne e, ← List.getD_eq_getElem?_getD];exact h.tk m hm
 ·have e:(s.thr.set n (some (mM f arg (dn ((s.table.getD n (false,0)).2+1) n))))[m]?=some none:=e
  show(dR r.thr n (ER (lb (gO (r.taken n+1)) n) f arg) m).used=false
  by_cases hm:n=m
  ·subst hm;rw[List.getElem?_set_self hnl] at e;cases e
  ·rw[List.getElem?_set_ne hm] at e;rw[jk (fun h=>hm h.symm)];exact h.no m e
 ·have e:(s.thr.set n (some (mM f arg (dn ((s.table.getD n (false,0)).2+1) n))))[m]?=some (some t1):=e
  show jw s.dG.funcs.length t1 (dR r.thr n (ER (lb (gO (r.taken n+1)) n) f arg) m)
  by_cases hm:n=m
  ·subst hm;rw[List.getElem?_set_self hnl] at e;cases e;rw[dz,hh]
   exact⟨rfl,rfl,rfl,rfl,rfl,rfl,rfl,rfl,rfl,rfl,rfl,hf⟩
  ·rw[List.getElem?_set_ne hm] at e;rw[jk (fun h=>hm h.symm)];exact h.th m t1 e
 ·show 0≤dR (fun _=>(0:Int)) 0 arg j∧dR (fun _=>(0:Int)) 0 arg j≤_
  unfold dR;split
  ·exact ha
  ·exact⟨Int.le_refl 0,(by decide:(0:Int)≤18446744073709551615)⟩
 ·obtain⟨t1,a1,a2⟩:=h.mw x hx y hy
  refine⟨t1,?_,a2⟩
  show({s with thr:=s.thr.set n (some (mM f arg (dn ((s.table.getD n (false,0)).2+1) n))) }:Spc).at y.who=some t1
  rw[jN hnl,if_neg (fun e=>by rw[e,kX,hno] at a1;cases a1)];exact a1
end
end Go.SLYtefdijgllbkmfaaGreat
namespace Go.SLYtefdijgllbkmfaaGreat
open Go Go.RowKit
variable{p0:eB}
theorem mf{s:Spc}{w:Int}(h:cG s.ag w=0):nC s w:=fun x hx y hy e=>by
 have h1:=dh (f:=fun m:dt=>dj w m.wait) hx
 have h2:0<dj w x.wait:=List.countP_pos_iff.2 ⟨y,hy,by simp[Ec,e]⟩
 unfold cG at h;omega
theorem p9{α β:Type}{f:α→β}:∀ (l:List α) (i:Nat),(l.map f).eraseIdx i=(l.eraseIdx i).map f
 | [],_=>rfl
 | _::_,0=>rfl
 | a::l,i+1=>by rw[List.map_cons,List.eraseIdx_cons_succ,List.eraseIdx_cons_succ,List.map_cons,p9 l i]
theorem mI{α:Type}:∀ {l:List α} {i:Nat} {x:α},l[i]?=some x→l.set i x=l
 | [],_,_,h=>by simp at h
 | _::_,0,_,h=>by simp at h;rw[h];rfl
 | a::l,i+1,x,h=>by rw[List.set_cons_succ,mI (by simpa using h)]
theorem mem_erase{α:Type}{l:List α}{i:Nat}{x:α}(h:x∈l.eraseIdx i):x∈l:=List.mem_of_mem_eraseIdx h
section
variable{k:Nat}{s0:Spc}{d:Dng}{t:bF}{a:RA}
theorem St.E3(S:St k s0 d t):nC d.s d.n:=mf (by have:=S.zero;unfold gH at this;omega)
theorem St.one(S:St k s0 d t)(w:Int):gH d.s w≤1:=by
 have h1:=S.h.ok.oB w
 have h2:=pP (s:=d.s) (w:=w)
 simp at h1;omega
theorem St.live(S:St k s0 d t){w:Int}(hw:0<gH d.s w):0≤w∧w.toNat≠d.n∧ ∃ u,d.s.thr[w.toNat]?=some (some u)∧(-1≤u.into∧u.into<8):=by
 have hb:=S.h.ok.oB w
 simp at hb
 obtain⟨u,hu,hu0,hu9⟩:=gI (show 0<dZ d.s w by omega)
 obtain⟨h0,hat⟩:=fi hu
 refine⟨h0,fun e=>?_,u,hat,(S.h.ok.th _ u hat).R.i⟩
 rw[e,S.ht] at hat;cases hat;exact hu0 S.hw
theorem fk.aD{s:Spc}{r:RSp}(h:fk p0 s r){i:Nat}{y:dt}{z:gg}(hz:z=iL y)(how:y.held=true→0≤y.owner)(hmw:∀ w∈y.wait, ∃ t,s.at w.who=some t∧t.why=1) :
  fk p0 {s with ag:={s.ag with aD:=s.ag.aD.set i y } } {r with aD:=r.aD.set i z } :=
 ⟨h.pg,h.tk,h.no,h.th,h.T,h.me,(by show r.aD.set i z=(s.ag.aD.set i y).map iL;rw[List.map_set,h.mx,hz]),h.cd,h.sm,h.sw,h.pp,h.bk,h.ak,h.nw,h.tl,h.tp,h.rc,h.tr,fun x hx=>by
  rcases List.mem_or_eq_of_mem_set hx with hx | rfl
  ·exact h.ow x hx
  ·exact how,fun x hx=>by
  rcases List.mem_or_eq_of_mem_set hx with hx | rfl
  ·exact h.mw x hx
  ·exact hmw⟩
theorem aV.aD(h:aV p0 d a){i:Nat}{y:dt}{z:gg}(hz:z=iL y)(how:y.held=true→0≤y.owner)(hmw:∀ w∈y.wait, ∃ t,d.s.at w.who=some t∧t.why=1) :
  aV p0 (d.aY {d.s.ag with aD:=d.s.ag.aD.set i y }) (a.w {a.s with aD:=a.s.aD.set i z }):=⟨h.s.aD hz how hmw,h.n,h.i,h.e,h.l⟩
theorem aV.bm(h:aV p0 d a){l:List (List dc)}:aV p0 (d.aY {d.s.ag with bm:=l }) (a.w {a.s with bm:=l }) :=
 ⟨⟨h.s.pg,h.s.tk,h.s.no,h.s.th,h.s.T,h.s.me,h.s.mx,rfl,h.s.sm,h.s.sw,h.s.pp,h.s.bk,h.s.ak,h.s.nw,h.s.tl,h.s.tp,h.s.rc,h.s.tr,h.s.ow,h.s.mw⟩,h.n,h.i,h.e,h.l⟩
theorem aV.KG(h:aV p0 d a){i:Nat}{x:jr}(hx:d.s.ag.bX[i]?=some x){c:Int}:aV p0 (d.aY {d.s.ag with bX:=d.s.ag.bX.set i {x with count:=c } }) (a.w {a.s with bX:=a.s.bX.set i c }) :=
 ⟨⟨h.s.pg,h.s.tk,h.s.no,h.s.th,h.s.T,h.s.me,h.s.mx,h.s.cd,(by show a.s.bX.set i c=(d.s.ag.bX.set i {x with count:=c }).map (·.count);rw[List.map_set,h.s.sm]),(by
  show a.s.sw=(d.s.ag.bX.set i {x with count:=c }).map fun x=>x.wait.map (·.who)
  rw[List.map_set,h.s.sw]
  exact(mI (l:=d.s.ag.bX.map fun x=>x.wait.map (·.who)) (x:=x.wait.map (·.who)) (by rw[List.getElem?_map,hx];rfl)).symm),h.s.pp,h.s.bk,h.s.ak,h.s.nw,h.s.tl,h.s.tp,h.s.rc,h.s.tr,h.s.ow,h.s.mw⟩,h.n,h.i,h.e,h.l⟩
theorem aV.KH(h:aV p0 d a){i:Nat}{x:jr}(hx:d.s.ag.bX[i]?=some x){l:List dc}{l':List Int}(hl:l'=l.map (·.who)):aV p0 (d.aY {d.s.ag with bX:=d.s.ag.bX.set i {x with wait:=l } }) (a.w {a.s with sw:=a.s.sw.set i l' }) :=
 ⟨⟨h.s.pg,h.s.tk,h.s.no,h.s.th,h.s.T,h.s.me,h.s.mx,h.s.cd,(by
  show a.s.bX=(d.s.ag.bX.set i {x with wait:=l }).map (·.count)
  rw[List.map_set,h.s.sm]
  exact(mI (l:=d.s.ag.bX.map (·.count)) (x:=x.count) (by rw[List.getElem?_map,hx];rfl)).symm),(by
  show a.s.sw.set i l'=(d.s.ag.bX.set i {x with wait:=l }).map fun x=>x.wait.map (·.who)
  rw[List.map_set,h.s.sw,hl]),h.s.pp,h.s.bk,h.s.ak,h.s.nw,h.s.tl,h.s.tp,h.s.rc,h.s.tr,h.s.ow,h.s.mw⟩,h.n,h.i,h.e,h.l⟩
theorem aV.given(h:aV p0 d a){n r1:Int}{ok:Bool}(hc:ok=false∧r1=0∨ok=true∧r1=n+1∧0≤n∧nC d.s n∧ ∃ u,d.s.thr[n.toNat]?=some (some u)∧(-1≤u.into∧u.into<8)):aV p0 (d.given n ok) (a.mW r1):=by
 unfold Dng.given RA.mW
 rcases hc with ⟨rfl,rfl⟩ | ⟨rfl,rfl,h0,hm,u,hu,hi⟩
 ·exact h
 ·rw[if_pos rfl,if_pos (by omega),show(n+1-1).toNat=n.toNat from by omega]
  exact h.dW hu hi (by rw[show((n.toNat:Nat):Int)=n from by omega];exact hm) ⟨by decide,by decide⟩
theorem qa(l:List dc)(c:Int):l=[]∧aH l c=(⟨0,0⟩,false,[])∨0<l.length∧pick c l.length<l.length∧aH l c=(l.getD (pick c l.length) ⟨0,0⟩,true,l.eraseIdx (pick c l.length)):=by
 unfold aH
 by_cases e:l.length=0
 ·obtain rfl:=List.eq_nil_of_length_eq_zero e;exact .inl ⟨rfl,rfl⟩
 ·rw[if_neg e];exact .inr ⟨by omega,eX (by omega),rfl⟩
theorem nC.unlock{s:Spc}{w:Int}(h:nC s w){i:Nat}{x:dt}(hx:s.ag.aD[i]?=some x){c:Int}{g:Gates}(hg:g.aD=s.ag.aD.set i (x.unlock c).2.2):nC {s with ag:=g } w:=fun y hy z hz=>by
 have hy:y∈g.aD:=hy
 rw[hg] at hy
 rcases List.mem_or_eq_of_mem_set hy with hy | rfl
 ·exact h y hy z hz
 ·refine h x (List.mem_of_getElem? hx) z ?_
  have hz:z∈(aH x.wait c).2.2:=hz
  rcases qa x.wait c with ⟨e,e2⟩ | ⟨_,_,e2⟩
  ·rw[e2] at hz;cases hz
  ·rw[e2] at hz;exact mem_erase hz
theorem aV.H7(S:St k s0 d t)(h:aV p0 d a){m:Int}(_h0:0≤m){x:dt}(hx:d.s.ag.aD[m.toNat]?=some x)(hg:cH d.s.ag.aD m=some x)(his:x.is d.n=true)(c:Int){m':Nat}(hm':m'=m.toNat) :
  aV p0 (d.aY {d.s.ag with aD:=d.s.ag.aD.set m.toNat (x.unlock c).2.2 }) (a.w (a.s.open m' c).2)∧
  ((x.unlock c).2.1=false∧(a.s.open m' c).1=0∨(x.unlock c).2.1=true∧(a.s.open m' c).1=(x.unlock c).1+1∧0≤(x.unlock c).1∧(x.unlock c).1.toNat≠d.n∧
   (∀ g:Gates,g.aD=d.s.ag.aD.set m.toNat (x.unlock c).2.2→nC {d.s with ag:=g } (x.unlock c).1)∧ ∃ u,d.s.thr[(x.unlock c).1.toNat]?=some (some u)∧(-1≤u.into∧u.into<8)):=by
 subst hm'
 have hx':a.s.aD[m.toNat]?=some (iL x):=by rw[h.s.mx,List.getElem?_map,hx];rfl
 have hmw:=h.s.mw x (List.mem_of_getElem? hx)
 have hc:=(xJ (n:=d.n) (m:=m) (c:=c) S.h.ok.gt).2
 rw[show d.s.ag.unlock d.n m c=((x.unlock c).1,(x.unlock c).2.1,0,{d.s.ag with aD:=d.s.ag.aD.set m.toNat (x.unlock c).2.2 }) from by unfold Gates.unlock;rw[hg];simp only;rw[if_pos his]] at hc
 simp only at hc
 rcases qa x.wait c with ⟨e,e2⟩ | ⟨e,hp,e2⟩
 ·have hu:x.unlock c=(0,false,⟨[],false,0⟩):=by unfold dt.unlock;rw[e2]
  rw[hu,A9 hx' (by show(x.wait.map (·.who)).length=0;rw[e];rfl)]
  refine⟨h.aD (by show(⟨0,x.wait.map (·.who)⟩:gg)=_;rw[e];rfl) (fun h=>by cases h) (fun w hw=>by cases hw),.inl ⟨rfl,rfl⟩⟩
 ·have hu:x.unlock c=((x.wait.getD (pick c x.wait.length) ⟨0,0⟩).who,true,⟨x.wait.eraseIdx (pick c x.wait.length),true,(x.wait.getD (pick c x.wait.length) ⟨0,0⟩).who⟩):=by unfold dt.unlock;rw[e2]
  have hgd:=getD_some (d:=(⟨0,0⟩:dc)) hp
  have hmem:=List.mem_of_getElem? hgd
  have hlen:(iL x).wait.length=x.wait.length:=List.length_map ..
  have hgw:(iL x).wait.getD (pick c x.wait.length) 0=(x.wait.getD (pick c x.wait.length) ⟨0,0⟩).who:=bJ (by show(x.wait.map (·.who))[_]?=_;rw[List.getElem?_map,hgd];rfl)
  have hope:=ye (s:=a.s) (c:=c) hx' (by rw[hlen];omega)
  rw[hlen,hgw,show(iL x).wait.eraseIdx (pick c x.wait.length)=(x.wait.eraseIdx (pick c x.wait.length)).map (·.who) from p9 _ _] at hope
  rw[hope,hu]
  rw[hu] at hc
  obtain⟨t1,a1,a2⟩:=hmw _ hmem
  obtain⟨b0,b1⟩:=fi a1
  dsimp only at hc ⊢
  generalize hw:(x.wait.getD (pick c x.wait.length) ⟨0,0⟩).who=w at *
  refine⟨h.aD rfl (fun _=>b0) (fun y hy=>hmw y (mem_erase hy)),.inr ⟨rfl,rfl,b0,fun e=>?_,fun g hg'=>?_,t1,b1,(S.h.ok.th _ t1 b1).R.i⟩⟩
  ·rw[e,S.ht] at b1;cases b1;rw[S.hw] at a2;cases a2
  ·have h1:=hc w
   rw[je ⟨rfl,rfl⟩] at h1
   have h2:=S.one w
   unfold gH at h2
   have h3:=mf (s:={d.s with ag:={d.s.ag with aD:=d.s.ag.aD.set m.toNat ⟨x.wait.eraseIdx (pick c x.wait.length),true,w⟩ } }) (w:=w) (by simp only;omega)
   intro y hy z hz
   have hy:y∈g.aD:=hy
   rw[hg'] at hy
   exact h3 y hy z hz
theorem aV.mutex(S:St k s0 d t)(h:aV p0 d a){c:Int}(hc:c=d.choice)(hop:d.i.op=25∨d.i.op=26∨d.i.op=27)(h1:d.i.op=25∨d.i.op=26→d.i.n<(d.s.ag.aD.length:Int))(h2:d.i.op=27→d.i.c<(d.s.ag.aD.length:Int)∧d.i.n<(d.s.ag.bm.length:Int)):aV p0 d.mutex (a.gate c):=by
 subst hc
 have hIn:=S.I.n
 have hIc:=S.I.c
 have hW:=S.waits
 have own:∀ x:dt,(iL x).owner=(a.n:Int)+1↔x.is d.n=true:=fun x=>by
  rw[h.n]
  show(if x.held=true then x.owner+1 else 0)=(d.n:Int)+1↔_
  unfold dt.is
  cases x.held with
  | false=>simp;omega
  | true=>simp
 unfold Dng.mutex
 simp only
 rcases hop with hop | hop | hop
 ·have hopA:a.i.op=25:=by rw[h.i];exact hop
  rw[if_pos hop]
  obtain⟨x,hx,hg⟩:=ck (l:=d.s.ag.aD) (i:=d.i.n) ⟨hIn.1,h1 (.inl hop)⟩
  have hx':a.s.aD[d.i.n.toNat]?=some (iL x):=by rw[h.s.mx,List.getElem?_map,hx];rfl
  have hxA:a.s.aD[a.i.n.toNat]?=some (iL x):=by rw[h.i];exact hx'
  have hmw:=h.s.mw x (List.mem_of_getElem? hx)
  have how:=h.s.ow x (List.mem_of_getElem? hx)
  by_cases his:x.is d.n=true
  ·have e:d.s.ag.lock d.n d.i.n=(false,4,d.s.ag):=by unfold Gates.lock;rw[hg];simp only;rw[if_pos (.inr his)]
   rw[e,if_neg (by simp),yj hopA hxA ((own x).2 his),h.i]
   exact h.pass (e:=4) S.ht (by decide)
  ·have hoA:¬(iL x).owner=(a.n:Int)+1:=fun e=>his ((own x).1 e)
   have e:d.s.ag.lock d.n d.i.n=((x.lock d.n).1,0,{d.s.ag with aD:=d.s.ag.aD.set d.i.n.toNat (x.lock d.n).2 }):=by
    unfold Gates.lock;rw[hg];simp only;rw[if_neg (by rw[hW];rintro(e | e);cases e;exact his e)]
   cases hh:x.held with
   | true =>
    have e2:x.lock d.n=(false,{x with wait:=x.wait++[⟨d.n,0⟩] }):=by unfold dt.lock;rw[if_pos hh]
    have wn:=wE (who:=(a.n:Int)) hxA (by show(if x.held=true then x.owner+1 else 0)≠0;rw[if_pos hh];have:=how hh;omega)
    rw[e,e2,if_pos ⟨rfl,rfl⟩,sK hopA hxA hoA (by rw[wn]),wn,h.i,h.n]
    have hb:=h.block (x:=d.i.n) (y:=0) S.ht (why:=1) (into := -1) (into':=0) ⟨by decide,by decide⟩ rfl (.inr rfl)
    have h3:=hb.aD (i:=d.i.n.toNat) (y:={x with wait:=x.wait++[⟨d.n,0⟩] }) (z:=⟨(iL x).owner,(iL x).wait++[(d.n:Int)]⟩) (by unfold iL;simp) how (fun w hw=>by
     rcases List.mem_append.1 hw with hw | hw
     ·exact hb.s.mw x (List.mem_of_getElem? hx) w hw
     ·rw[List.mem_singleton] at hw;subst hw
      refine⟨{t with why:=1,op:=d.i.op,into := -1 },oA ?_,rfl⟩
      unfold Dng.block;rw[bZ S.ht];exact bS S.ht)
    exact h3
   | false =>
    have e2:x.lock d.n=(true,{x with held:=true,owner:=d.n }):=by unfold dt.lock;rw[if_neg (by rw[hh];simp)]
    have wn:=sJ (who:=(a.n:Int)) hxA (by show ¬(if x.held=true then x.owner+1 else 0)≠0;rw[if_neg (by rw[hh];simp)];simp)
    rw[e,e2,if_neg (by simp),yk hopA hxA hoA (by rw[wn]),wn,h.i,h.n]
    have h3:=h.aD (i:=d.i.n.toNat) (y:={x with held:=true,owner:=d.n }) (z:={iL x with owner:=(d.n:Int)+1 }) rfl (fun _=>by show(0:Int)≤(d.n:Int);omega) hmw
    exact h3.pass (e:=0) (t:=t) S.ht (by decide)
 ·have hopA:a.i.op=26:=by rw[h.i];exact hop
  rw[if_neg (by omega),if_pos hop]
  obtain⟨x,hx,hg⟩:=ck (l:=d.s.ag.aD) (i:=d.i.n) ⟨hIn.1,h1 (.inr hop)⟩
  have hxA:a.s.aD[a.i.n.toNat]?=some (iL x):=by rw[h.i,h.s.mx,List.getElem?_map,hx];rfl
  by_cases his:x.is d.n=true
  ·rw[show d.s.ag.unlock d.n d.i.n d.choice=((x.unlock d.choice).1,(x.unlock d.choice).2.1,0,{d.s.ag with aD:=d.s.ag.aD.set d.i.n.toNat (x.unlock d.choice).2.2 }) from by unfold Gates.unlock;rw[hg];simp only;rw[if_pos his]]
   rw[pX hopA hxA (fun e=>e ((own x).2 his)),h.i]
   obtain⟨o1,o2⟩:=h.H7 S hIn.1 hx hg his d.choice rfl
   refine aV.given (o1.pass (e:=0) (t:=t) S.ht (by decide)) ?_
   rcases o2 with o2 | ⟨p1,p2,p3,p4,p5,u,p6,p7⟩
   ·exact .inl o2
   ·refine .inr ⟨p1,p2,p3,fun y hy=>p5 _ rfl y hy,u,?_,p7⟩
    unfold Dng.pass
    exact cn (s:=((d.aY _).tell _ _ _ _).s) p6 (Ne.symm p4)
  ·rw[show d.s.ag.unlock d.n d.i.n d.choice=(0,false,5,d.s.ag) from by unfold Gates.unlock;rw[hg];simp only;rw[if_neg his]]
   rw[ym hopA hxA (fun e=>his ((own x).1 e)),h.i]
   exact h.pass (e:=5) S.ht (by decide)
 ·have hopA:a.i.op=27:=by rw[h.i];exact hop
  rw[if_neg (by omega),if_neg (by omega)]
  obtain⟨x,hx,hg⟩:=ck (l:=d.s.ag.aD) (i:=d.i.c) ⟨hIc.1,(h2 hop).1⟩
  obtain⟨r,hr,hgr⟩:=ck (l:=d.s.ag.bm) (i:=d.i.n) ⟨hIn.1,(h2 hop).2⟩
  have hxA:a.s.aD[a.i.c.toNat]?=some (iL x):=by rw[h.i,h.s.mx,List.getElem?_map,hx];rfl
  by_cases his:x.is d.n=true
  ·rw[show d.s.ag.wait d.n d.i.n d.i.c d.choice=((x.unlock d.choice).1,(x.unlock d.choice).2.1,0,{d.s.ag with aD:=d.s.ag.aD.set d.i.c.toNat (x.unlock d.choice).2.2,bm:=d.s.ag.bm.set d.i.n.toNat (r++[⟨d.n,d.i.c⟩]) }) from by
    unfold Gates.wait;rw[hg,hgr];simp only;rw[if_neg (by rw[hW];simp),if_pos his]]
   rw[if_neg (by simp),pY hopA hxA (fun e=>e ((own x).2 his)),h.i,h.n]
   obtain⟨o1,o2⟩:=h.H7 S hIc.1 hx hg his d.choice rfl
   have hcd:(a.s.open d.i.c.toNat d.choice).2.bm=d.s.ag.bm:=o1.s.cd
   have o3:=o1.bm (l:=d.s.ag.bm.set d.i.n.toNat (r++[⟨d.n,d.i.c⟩]))
   unfold RSp.queue
   rw[hcd,bJ hr]
   refine aV.given (o3.block (t:=t) S.ht (into := -1) ⟨by decide,by decide⟩ rfl (.inl (S.E3.unlock hx rfl))) ?_
   rcases o2 with o2 | ⟨p1,p2,p3,p4,p5,u,p6,p7⟩
   ·exact .inl o2
   ·refine .inr ⟨p1,p2,p3,fun y hy=>p5 _ rfl y hy,u,?_,p7⟩
    unfold Dng.block
    exact cn (s:=((d.aY _).tell _ _ _ _).s) p6 (Ne.symm p4)
  ·rw[show d.s.ag.wait d.n d.i.n d.i.c d.choice=(0,false,5,d.s.ag) from by unfold Gates.wait;rw[hg,hgr];simp only;rw[if_neg (by rw[hW];simp),if_neg his]]
   rw[if_pos (by simp),uB hopA hxA (fun e=>his ((own x).1 e)),h.i]
   exact h.pass (e:=5) S.ht (by decide)
theorem aV.down(S:St k s0 d t)(h:aV p0 d a)(hop:d.i.op=30)(h1:d.i.n<(d.s.ag.bX.length:Int)):aV p0 d.bX a.down:=by
 have hIn:=S.I.n
 have hW:=S.waits
 obtain⟨x,hx,hg⟩:=ck (l:=d.s.ag.bX) (i:=d.i.n) ⟨hIn.1,h1⟩
 have hc:a.s.bX.getD d.i.n.toNat 0=x.count:=bJ (by rw[h.s.sm,List.getElem?_map,hx];rfl)
 have hw:a.s.sw.getD d.i.n.toNat []=x.wait.map (·.who):=bJ (by rw[h.s.sw,List.getElem?_map,hx];rfl)
 have hcA:a.s.bX.getD a.i.n.toNat 0=x.count:=by rw[h.i];exact hc
 unfold Dng.bX
 simp only
 rw[if_neg (by omega)]
 by_cases e:0<x.count
 ·rw[show d.s.ag.down d.n d.i.n=(true,0,{d.s.ag with bX:=d.s.ag.bX.set d.i.n.toNat {x with count:=x.count-1 } }) from by unfold Gates.down;rw[hg];simp only;rw[if_neg (by rw[hW];simp),if_pos e]]
  rw[if_neg (by simp),Bc (by rw[hcA];exact e),h.i,hc]
  exact(h.KG hx (c:=x.count-1)).pass (e:=0) (t:=t) S.ht (by decide)
 ·rw[show d.s.ag.down d.n d.i.n=(false,0,{d.s.ag with bX:=d.s.ag.bX.set d.i.n.toNat {x with wait:=x.wait++[⟨d.n,0⟩] } }) from by unfold Gates.down;rw[hg];simp only;rw[if_neg (by rw[hW];simp),if_neg e]]
  rw[if_pos ⟨rfl,rfl⟩,uD (by rw[hcA];exact e),h.i,h.n,hw]
  exact(h.KH hx (l:=x.wait++[⟨d.n,0⟩]) (l':=x.wait.map (·.who)++[(d.n:Int)]) (by simp)).block (t:=t) S.ht (into := -1) ⟨by decide,by decide⟩ rfl (.inl S.E3)
theorem aV.up(S:St k s0 d t)(h:aV p0 d a){c:Int}(hc:c=d.choice)(hop:d.i.op=31)(h1:d.i.n<(d.s.ag.bX.length:Int)):aV p0 d.bX (a.up c):=by
 subst hc
 have hIn:=S.I.n
 obtain⟨x,hx,hg⟩:=ck (l:=d.s.ag.bX) (i:=d.i.n) ⟨hIn.1,h1⟩
 have hcn:a.s.bX.getD d.i.n.toNat 0=x.count:=bJ (by rw[h.s.sm,List.getElem?_map,hx];rfl)
 have hw:a.s.sw.getD d.i.n.toNat []=x.wait.map (·.who):=bJ (by rw[h.s.sw,List.getElem?_map,hx];rfl)
 have hu:=(Ki (s:=d.i.n) (c:=d.choice) S.h.ok.gt).2
 have hwA:a.s.sw.getD a.i.n.toNat []=x.wait.map (·.who):=by rw[h.i];exact hw
 have hcA:a.s.bX.getD a.i.n.toNat 0=x.count:=by rw[h.i];exact hcn
 unfold Dng.bX
 simp only
 rw[if_pos hop]
 rcases qa x.wait d.choice with ⟨e,e2⟩ | ⟨e,hp,e2⟩
 ·have hno:¬ 0<(a.s.sw.getD a.i.n.toNat []).length:=by rw[hwA,e];simp
  have hsc:=S.h.ok.gt.sc x (List.mem_of_getElem? hx)
  by_cases hf:1048576≤x.count
  ·rw[show d.s.ag.up d.i.n d.choice=(0,false,2,d.s.ag) from by unfold Gates.up;rw[hg];simp only;rw[e2];simp only;rw[if_neg (by simp),if_pos hf],Bb hno (by rw[hcA];omega),h.i]
   exact h.pass (e:=2) S.ht (by decide)
  ·rw[show d.s.ag.up d.i.n d.choice=(0,false,0,{d.s.ag with bX:=d.s.ag.bX.set d.i.n.toNat {x with count:=x.count+1 } }) from by unfold Gates.up;rw[hg];simp only;rw[e2];simp only;rw[if_neg (by simp),if_neg hf],H4 hno (by rw[hcA];omega),h.i,hcn]
   exact(h.KG hx (c:=x.count+1)).pass (e:=0) (t:=t) S.ht (by decide)
 ·have hgd:=getD_some (d:=(⟨0,0⟩:dc)) hp
  rw[Ba (by rw[hwA,List.length_map];exact e),h.i,hw,List.length_map,show(x.wait.map (·.who)).getD (pick d.choice x.wait.length) 0=(x.wait.getD (pick d.choice x.wait.length) ⟨0,0⟩).who from bJ (by rw[List.getElem?_map,hgd];rfl),p9]
  have eu:d.s.ag.up d.i.n d.choice=((x.wait.getD (pick d.choice x.wait.length) ⟨0,0⟩).who,true,0,{d.s.ag with bX:=d.s.ag.bX.set d.i.n.toNat {x with wait:=x.wait.eraseIdx (pick d.choice x.wait.length) } }):=by
   unfold Gates.up;rw[hg];simp only;rw[e2];simp only;rw[if_pos trivial]
  rw[eu] at hu ⊢
  have hu:=hu (x.wait.getD (pick d.choice x.wait.length) ⟨0,0⟩).who
  rw[je ⟨rfl,rfl⟩] at hu
  generalize (x.wait.getD (pick d.choice x.wait.length) ⟨0,0⟩).who=w at *
  obtain⟨b0,b1,u,b2,b3⟩:=S.live (w:=w) (by unfold gH;omega)
  have h2:=S.one w
  unfold gH at h2
  have hn:nC {d.s with ag:={d.s.ag with bX:=d.s.ag.bX.set d.i.n.toNat {x with wait:=x.wait.eraseIdx (pick d.choice x.wait.length) } } } w:=mf (by simp only at hu ⊢;omega)
  have h3:=(h.KH hx (l:=x.wait.eraseIdx (pick d.choice x.wait.length)) (l':=(x.wait.eraseIdx (pick d.choice x.wait.length)).map (·.who)) rfl).pass (x:=d.i.n) (y:=0) (e:=0) (t:=t) S.ht (by decide)
  unfold Dng.given
  rw[if_pos rfl]
  refine h3.dW (u:=u) ?_ b3 (by rw[show((w.toNat:Nat):Int)=w from by omega];exact hn) ⟨by decide,by decide⟩
  unfold Dng.pass
  exact cn (s:=((d.aY _).tell _ _ _ _).s) b2 (Ne.symm b1)
end
end Go.SLYtefdijgllbkmfaaGreat
namespace Go.SLYtefdijgllbkmfaaGreat
open Go Go.RowKit
variable{p0:eB}
theorem Jr{α β γ:Type}(f:α→β→γ){a a':α}{b b':β}(h:a=a')(h2:b=b'):f a b=f a' b':=by rw[h,h2]
def sigRun:List dc→List dt→List Int→List dt×List Int
 | [],ms,out=>(ms,out)
 | w::l,ms,out=>sigRun l (ms.set w.mutex.toNat ((ms.getD w.mutex.toNat iH).lock w.who).2) (if ((ms.getD w.mutex.toNat iH).lock w.who).1=true then out++[w.who] else out)
theorem gV:∀ (l:List dc) (ms:List dt) (out:List Int),sigRun l ms out=((sigRun l ms []).1,out++(sigRun l ms []).2)
 | [],ms,out=>by simp[sigRun]
 | w::l,ms,out=>by
  rw[sigRun,sigRun]
  by_cases e:((ms.getD w.mutex.toNat iH).lock w.who).1=true
  ·rw[if_pos e,if_pos e,gV l _ (out++[w.who]),gV l _ ([]++[w.who])];simp
  ·rw[if_neg e,if_neg e,gV l _ out]
theorem Js{n:Nat}(_h:0<n):pick 0 n=0:=by unfold pick;simp
theorem qG:∀ (r:List dc) (ms:List dt) (out:List Int),sigLoop r.length 0 r ms out=([],(sigRun r ms out).1,(sigRun r ms out).2)
 | [],ms,out=>rfl
 | w::l,ms,out=>by
  have e:aH (w::l) 0=(w,true,l):=by unfold aH;rw[if_neg (by simp),Js (by simp)];rfl
  rw[List.length_cons,sigLoop,e]
  exact qG l _ _
theorem yw{r:List dc}{c:Int}{ms:List dt}{out:List Int}(h:0<r.length):sigLoop 1 c r ms out=(r.eraseIdx (pick c r.length),(sigRun [r.getD (pick c r.length) ⟨0,0⟩] ms out).1,(sigRun [r.getD (pick c r.length) ⟨0,0⟩] ms out).2):=by
 have e:aH r c=(r.getD (pick c r.length) ⟨0,0⟩,true,r.eraseIdx (pick c r.length)):=by unfold aH;rw[if_neg (by omega)]
 rw[sigLoop,e];rfl
def qH(ms:List dt)(w:Int):Prop:=∃ x∈ms, ∃ y∈x.wait,y.who=w
theorem kz{x:dt}{w:Int}:(x.lock w).2.wait=x.wait∧(x.lock w).1=true∨(x.lock w).2.wait=x.wait++[⟨w,0⟩]∧(x.lock w).1=false:=by
 unfold dt.lock;split
 ·exact .inr ⟨rfl,rfl⟩
 ·exact .inl ⟨rfl,rfl⟩
theorem Cu{ms:List dt}{i:Nat}{w v:Int}(h:qH ms v):qH (ms.set i ((ms.getD i iH).lock w).2) v:=by
 obtain⟨x,hx,y,hy,e⟩:=h
 obtain⟨j,hj⟩:=List.getElem?_of_mem hx
 by_cases hij:i=j
 ·subst hij
  have hl:=(List.getElem?_eq_some_iff.1 hj).1
  refine⟨_,List.mem_of_getElem? (List.getElem?_set_self hl),y,?_,e⟩
  rw[bJ hj]
  rcases kz (x:=x) (w:=w) with ⟨h1,_⟩ | ⟨h1,_⟩ <;> rw[h1]
  ·exact hy
  ·exact List.mem_append_left _ hy
 ·exact⟨x,List.mem_of_getElem? (by rw[List.getElem?_set_ne hij];exact hj),y,hy,e⟩
theorem uP{v:Int}:∀ {l:List dc} {ms:List dt} {out:List Int},qH ms v→qH (sigRun l ms out).1 v
 | [],_,_,h=>h
 | w::l,ms,out,h=>by rw[sigRun];exact uP (Cu h)
theorem Bg:∀ {l:List dc} {ms:List dt} {out:List Int},(sigRun l ms out).1.length=ms.length
 | [],_,_=>rfl
 | w::l,ms,out=>by rw[sigRun,Bg,List.length_set]
theorem E4:∀ {l:List dc} {ms:List dt},(∀ w∈l,w.mutex.toNat<ms.length)→ ∀ w∈l,w.who∈(sigRun l ms []).2∨qH (sigRun l ms []).1 w.who
 | [],_,_,w,hw=>by cases hw
 | z::l,ms,hl,w,hw=>by
  rw[sigRun,gV]
  rcases List.mem_cons.1 hw with rfl | hw
  ·have hlt:=hl w List.mem_cons_self
   rcases kz (x:=ms.getD w.mutex.toNat iH) (w:=w.who) with ⟨h1,h2⟩ | ⟨h1,h2⟩
   ·rw[h2];exact .inl (List.mem_append_left _ (by simp))
   ·refine .inr (uP ⟨_,List.mem_of_getElem? (List.getElem?_set_self hlt),⟨w.who,0⟩,by rw[h1];simp,rfl⟩)
  ·rcases E4 (l:=l) (ms:=ms.set z.mutex.toNat ((ms.getD z.mutex.toNat iH).lock z.who).2) (fun w hw=>by rw[List.length_set];exact hl w (List.mem_cons_of_mem _ hw)) w hw with h | h
   ·exact .inl (List.mem_append_right _ h)
   ·exact .inr h
theorem zK{v:Int}:∀ {l:List dc} {ms:List dt} {out:List Int},qH (sigRun l ms out).1 v→qH ms v∨ ∃ w∈l,w.who=v
 | [],_,_,h=>.inl h
 | w::l,ms,out,h=>by
  rw[sigRun] at h
  rcases zK h with ⟨x,hx,y,hy,e⟩ | ⟨z,hz,e⟩
  ·rcases List.mem_or_eq_of_mem_set hx with hx | rfl
   ·exact .inl ⟨x,hx,y,hy,e⟩
   ·by_cases hlt:w.mutex.toNat<ms.length
    ·have hm:ms.getD w.mutex.toNat iH∈ms:=List.mem_of_getElem? (getD_some hlt)
     rcases kz (x:=ms.getD w.mutex.toNat iH) (w:=w.who) with ⟨h1,_⟩ | ⟨h1,_⟩
     ·rw[h1] at hy;exact .inl ⟨_,hm,y,hy,e⟩
     ·rw[h1] at hy
      rcases List.mem_append.1 hy with hy | hy
      ·exact .inl ⟨_,hm,y,hy,e⟩
      ·rw[List.mem_singleton] at hy;subst hy;exact .inr ⟨w,List.mem_cons_self,e⟩
    ·rw[show ms.getD w.mutex.toNat iH=iH from by rw[List.getD_eq_getElem?_getD,List.getElem?_eq_none (by omega)];rfl] at hy
     rcases kz (x:=iH) (w:=w.who) with ⟨h1,_⟩ | ⟨h1,_⟩
     ·rw[h1] at hy;cases hy
     ·rw[h1] at hy;rw[show iH.wait=[] from rfl,List.nil_append,List.mem_singleton] at hy;subst hy;exact .inr ⟨w,List.mem_cons_self,e⟩
  ·exact .inr ⟨z,List.mem_cons_of_mem _ hz,e⟩
theorem Bh:∀ {l:List dc} {ms:List dt}, ∀ v∈(sigRun l ms []).2, ∃ w∈l,w.who=v
 | [],_,v,h=>by cases h
 | w::l,ms,v,h=>by
  rw[sigRun,gV] at h
  rcases List.mem_append.1 h with h | h
  ·split at h
   ·rw[List.nil_append,List.mem_singleton] at h;exact⟨w,List.mem_cons_self,h.symm⟩
   ·cases h
  ·obtain⟨z,hz,e⟩:=Bh v h;exact⟨z,List.mem_cons_of_mem _ hz,e⟩
/-! one behind the other -/
def Dng.gW(d:Dng)(w:dc):Dng :=
 if (d.s.ag.aD.getD w.mutex.toNat iH).held=true then ({d with s:=d.s.aj w.who.toNat {d.s.t w.who.toNat with why:=1 } }:Dng).aY {d.s.ag with aD:=d.s.ag.aD.set w.mutex.toNat ((d.s.ag.aD.getD w.mutex.toNat iH).lock w.who).2 }
 else (d.aY {d.s.ag with aD:=d.s.ag.aD.set w.mutex.toNat ((d.s.ag.aD.getD w.mutex.toNat iH).lock w.who).2 }).dW w.who.toNat 0
def Dng.sigs(d:Dng):List dc→Dng
 | []=>d
 | w::l=>(d.gW w).sigs l
section
variable{d:Dng}{a:RA}
structure Wt(s:Spc)(w:dc):Prop where
 m:w.mutex.toNat<s.ag.aD.length
 o:0≤w.who
 l:∃ u,s.thr[w.who.toNat]?=some (some u)∧(-1≤u.into∧u.into<8)
 n:nC s w.who
theorem aV.gW(h:aV p0 d a){w:dc}(hw:Wt d.s w):aV p0 (d.gW w) (eZ a w):=by
 obtain⟨x,hx⟩:=aB hw.m
 have hx':a.s.aD[w.mutex.toNat]?=some (iL x):=by rw[h.s.mx,List.getElem?_map,hx];rfl
 have hmw:=h.s.mw x (List.mem_of_getElem? hx)
 have how:=h.s.ow x (List.mem_of_getElem? hx)
 obtain⟨u,hu,hi⟩:=hw.l
 have h0:=hw.o
 unfold Dng.gW eZ
 rw[bJ hx]
 cases hh:x.held with
 | true =>
  have e2:x.lock w.who=(false,{x with wait:=x.wait++[⟨w.who,0⟩] }):=by unfold dt.lock;rw[if_pos hh]
  rw[if_pos rfl,wE hx' (by show(if x.held=true then x.owner+1 else 0)≠0;rw[if_pos hh];have:=how hh;omega),if_neg (by simp),e2]
  have hT:=h.s.th _ u hu
  have hR:=h.s.T w.who.toNat
  have hs:=h.s.aj hu (t':={u with why:=1 }) (u':={a.s.t w.who.toNat with why:=1 }) ⟨hT.us,hT.h,rfl,hT.f,hT.p,hT.r,hT.v,hT.d,hT.j,hT.o,hT.i,hT.fl⟩ ⟨hR.r,hR.i,hR.j,hR.p,hR.v⟩ (.inr (.inr rfl))
  have h1:aV p0 {d with s:=d.s.aj w.who.toNat {d.s.t w.who.toNat with why:=1 } } {a with s:=a.s.aj w.who.toNat {a.s.t w.who.toNat with why:=1 } }:=⟨by rw[cV hu];exact hs,h.n,h.i,h.e,h.l⟩
  have h2:=h1.aD (i:=w.mutex.toNat) (y:={x with wait:=x.wait++[⟨w.who,0⟩] }) (z:=⟨(iL x).owner,(iL x).wait++[w.who]⟩) (by unfold iL;simp) how (fun y hy=>by
   rcases List.mem_append.1 hy with hy | hy
   ·exact h1.s.mw x (List.mem_of_getElem? hx) y hy
   ·rw[List.mem_singleton] at hy;subst hy
    refine⟨{u with why:=1 },?_,rfl⟩
    have:=oA (bS (s:=d.s) (t':={u with why:=1 }) hu)
    rw[show((w.who.toNat:Nat):Int)=w.who from by omega] at this
    show({d with s:=d.s.aj w.who.toNat {d.s.t w.who.toNat with why:=1 } }:Dng).s.at w.who=_
    rw[cV hu];exact this)
  exact h2
 | false =>
  have e2:x.lock w.who=(true,{x with held:=true,owner:=w.who }):=by unfold dt.lock;rw[if_neg (by rw[hh];simp)]
  rw[if_neg (by simp),sJ hx' (by show ¬(if x.held=true then x.owner+1 else 0)≠0;rw[if_neg (by rw[hh];simp)];simp),if_pos rfl,e2]
  have h3:=h.aD (i:=w.mutex.toNat) (y:={x with held:=true,owner:=w.who }) (z:={iL x with owner:=w.who+1 }) rfl (fun _=>h0) hmw
  refine h3.dW (u:=u) hu hi (fun y hy z hz=>?_) ⟨by decide,by decide⟩
  rw[show((w.who.toNat:Nat):Int)=w.who from by omega]
  rcases List.mem_or_eq_of_mem_set hy with hy | rfl
  ·exact hw.n y hy z hz
  ·exact hw.n x (List.mem_of_getElem? hx) z hz
theorem Wt.gW{w v:dc}(h:Wt d.s v)(hw:Wt d.s w)(hne:v.who≠w.who):Wt (d.gW w).s v:=by
 have hv0:=h.o
 have hw0:=hw.o
 obtain⟨u,hu,hi⟩:=h.l
 have hn:w.who.toNat≠v.who.toNat:=by omega
 obtain⟨x,hx⟩:=aB hw.m
 unfold Dng.gW
 rw[bJ hx]
 have hN:∀ g:Gates,g.aD=d.s.ag.aD.set w.mutex.toNat (x.lock w.who).2→nC {d.s with ag:=g } v.who:=fun g hg y hy z hz=>by
  have hy:y∈g.aD:=hy
  rw[hg] at hy
  rcases List.mem_or_eq_of_mem_set hy with hy | rfl
  ·exact h.n y hy z hz
  ·rcases kz (x:=x) (w:=w.who) with ⟨h1,_⟩ | ⟨h1,_⟩
   ·rw[h1] at hz;exact h.n x (List.mem_of_getElem? hx) z hz
   ·rw[h1] at hz
    rcases List.mem_append.1 hz with hz | hz
    ·exact h.n x (List.mem_of_getElem? hx) z hz
    ·rw[List.mem_singleton] at hz;subst hz;exact fun e=>hne e.symm
 split
 ·exact⟨by show _<(d.s.ag.aD.set _ _).length;rw[List.length_set];exact h.m,hv0,⟨u,cn hu hn,hi⟩,fun y hy=>hN _ rfl y hy⟩
 ·exact⟨by show _<(d.s.ag.aD.set _ _).length;rw[List.length_set];exact h.m,hv0,⟨u,cn (s:={d.s with ag:=_ }) hu hn,hi⟩,fun y hy=>hN _ rfl y hy⟩
theorem aV.sigs:∀ (l:List dc) {d:Dng} {a:RA},aV p0 d a→(∀ w∈l,Wt d.s w)→(l.map (·.who)).Nodup→aV p0 (d.sigs l) (rSignal a l)
 | [],_,_,h,_,_=>h
 | w::l,d,a,h,hl,hn=>by
  rw[oZ]
  rw[List.map_cons,List.nodup_cons] at hn
  have hw:=hl w List.mem_cons_self
  exact aV.sigs l (h.gW hw) (fun v hv=>(hl v (List.mem_cons_of_mem _ hv)).gW hw (fun e=>hn.1 (by rw[← e];exact List.mem_map_of_mem hv))) hn.2
/-! the program's way: all at once -/
theorem set_comm{α:Type}{l:List α}{i j:Nat}{x y:α}(h:i≠j):(l.set i x).set j y=(l.set j y).set i x:=List.set_comm x y h
theorem sP{n:Nat}{t1:bF}:∀ (W:List Int) {s:Spc},(∀ w∈W,w.toNat≠n)→bV (s.aj n t1) W=(bV s W).aj n t1
 | [],_,_=>rfl
 | w::W,s,h=>by
  have hw:=h w List.mem_cons_self
  show bV ((s.aj n t1).aj w.toNat {(s.aj n t1).t w.toNat with why:=1 }) W=(bV (s.aj w.toNat {s.t w.toNat with why:=1 }) W).aj n t1
  rw[← sP W (fun v hv=>h v (List.mem_cons_of_mem _ hv))]
  congr 1
  have e:(s.aj n t1).t w.toNat=s.t w.toNat:=by
   unfold Spc.t Spc.aj;simp only;rw[List.getD_eq_getElem?_getD,List.getElem?_set_ne (fun e=>hw e.symm), ← List.getD_eq_getElem?_getD]
  rw[e]
  unfold Spc.aj
  simp only
  rw[set_comm (fun e=>hw e.symm)]
theorem yx{n:Nat}:∀ (W:List Int) {s:Spc},(∀ w∈W,w.toNat≠n)→(bV s W).t n=s.t n
 | [],_,_=>rfl
 | w::W,s,h=>by
  show(bV (s.aj w.toNat {s.t w.toNat with why:=1 }) W).t n=_
  rw[yx W (fun v hv=>h v (List.mem_cons_of_mem _ hv))]
  unfold Spc.t Spc.aj;simp only;rw[List.getD_eq_getElem?_getD,List.getElem?_set_ne (h w List.mem_cons_self), ← List.getD_eq_getElem?_getD]
theorem q8{s:Spc}{n:Nat}{u:bF}(hu:s.thr[n]?=some (some u)):s.aj n u=s:=by
 unfold Spc.aj;rw[mI hu]
theorem fN{s:Spc}{n:Nat}{u v:bF}:(s.aj n u).aj n v=s.aj n v:=by unfold Spc.aj;simp only;rw[List.set_set]
theorem uQ:∀ (W:List Int) {s:Spc},(∀ w∈W, ∃ u,s.thr[w.toNat]?=some (some u)∧u.why=1)→bV s W=s
 | [],_,_=>rfl
 | w::W,s,h=>by
  obtain⟨u,hu,h1⟩:=h w List.mem_cons_self
  show bV (s.aj w.toNat {s.t w.toNat with why:=1 }) W=s
  rw[cV hu,show({u with why:=1 }:bF)=u from by rw[← h1],q8 hu]
  exact uQ W (fun v hv=>h v (List.mem_cons_of_mem _ hv))
theorem uR{n:Nat}{u:bF}:∀ (W:List Int) {s:Spc},s.thr[n]?=some (some u)→(∃ w∈W,w.toNat=n)→bV (s.aj n {u with why:=1 }) W=bV s W
 | [],_,_,h=>by obtain⟨w,hw,_⟩:=h;cases hw
 | w::W,s,hu,h=>by
  show bV ((s.aj n {u with why:=1 }).aj w.toNat {(s.aj n {u with why:=1 }).t w.toNat with why:=1 }) W=bV (s.aj w.toNat {s.t w.toNat with why:=1 }) W
  by_cases e:w.toNat=n
  ·subst e
   rw[cV (bS hu),cV hu,fN]
  ·have hin:∃ w∈W,w.toNat=n:=by
    obtain⟨v,hv,ev⟩:=h
    rcases List.mem_cons.1 hv with rfl | hv
    ·exact absurd ev e
    ·exact⟨v,hv,ev⟩
   have e1:(s.aj n {u with why:=1 }).t w.toNat=s.t w.toNat:=by
    unfold Spc.t Spc.aj;simp only;rw[List.getD_eq_getElem?_getD,List.getElem?_set_ne (fun h=>e h.symm), ← List.getD_eq_getElem?_getD]
   have e2:∀ t1:bF,(s.aj n {u with why:=1 }).aj w.toNat t1=(s.aj w.toNat t1).aj n {u with why:=1 }:=fun t1=>by
    unfold Spc.aj;simp only;rw[set_comm (fun h=>e h.symm)]
   rw[e1,e2]
   exact uR W (cn hu e) hin
theorem Cv{x:dt}{w:Int}:(x.lock w).1 = !x.held:=by unfold dt.lock;cases x.held <;> rfl
def Dng.all(d:Dng)(ms:List dt)(W:List Int):Dng:={d with s:=bV {d.s with ag:={d.s.ag with aD:=ms } } W }
theorem wI:∀ (l:List dc) (d:Dng) (W:List Int),(∀ w∈l,Wt d.s w)→(l.map (·.who)).Nodup→(∀ w∈W,0≤w)→
  (∀ w∈l,w.who∈(sigRun l d.s.ag.aD []).2∨w.who∈W)→(∀ w∈(sigRun l d.s.ag.aD []).2,w ∉ W)→
  (∀ w∈W,(∃ u,d.s.thr[w.toNat]?=some (some u)∧u.why=1)∨ ∃ z∈l,z.who=w)→
  d.sigs l=(d.all (sigRun l d.s.ag.aD []).1 W).dy (sigRun l d.s.ag.aD []).2
 | [],d,W,_,_,_,_,_,hB=>by
  show d=(d.all d.s.ag.aD W).dy []
  show d=d.all d.s.ag.aD W
  unfold Dng.all
  rw[uQ W (fun w hw=>by
   rcases hB w hw with h | ⟨z,hz,_⟩
   ·exact h
   ·cases hz)]
 | w::l,d,W,hl,hn,h0,hM,hN,hB=>by
  have hw:=hl w List.mem_cons_self
  rw[List.map_cons,List.nodup_cons] at hn
  obtain⟨hn1,hn2⟩:=hn
  obtain⟨u,hu,hi⟩:=hw.l
  have hw0:=hw.o
  have hlr:∀ v∈l,Wt (d.gW w).s v:=fun v hv=>(hl v (List.mem_cons_of_mem _ hv)).gW hw (fun e=>hn1 (by rw[← e];exact List.mem_map_of_mem hv))
  have hms:(d.gW w).s.ag.aD=d.s.ag.aD.set w.mutex.toNat ((d.s.ag.aD.getD w.mutex.toNat iH).lock w.who).2:=by unfold Dng.gW;split <;> rfl
  have hrun:sigRun (w::l) d.s.ag.aD []=((sigRun l (d.gW w).s.ag.aD []).1,(if (d.s.ag.aD.getD w.mutex.toNat iH).held=true then [] else [w.who])++(sigRun l (d.gW w).s.ag.aD []).2):=by
   rw[sigRun,gV,hms,Cv]
   cases (d.s.ag.aD.getD w.mutex.toNat iH).held <;> simp
  rw[hrun] at hM hN ⊢
  have hnot:w.who ∉ (sigRun l (d.gW w).s.ag.aD []).2:=fun h=>by
   obtain⟨z,hz,e⟩:=Bh _ h
   exact hn1 (by rw[← e];exact List.mem_map_of_mem hz)
  have hM':∀ v∈l,v.who∈(sigRun l (d.gW w).s.ag.aD []).2∨v.who∈W:=fun v hv=>by
   rcases hM v (List.mem_cons_of_mem _ hv) with h | h
   ·rcases List.mem_append.1 h with h | h
    ·split at h
     ·cases h
     ·rw[List.mem_singleton] at h;exact absurd (List.mem_map_of_mem (f:=(·.who)) hv) (by show ¬v.who∈_;rw[h];exact hn1)
    ·exact .inl h
   ·exact .inr h
  have hN':∀ v∈(sigRun l (d.gW w).s.ag.aD []).2,v ∉ W:=fun v hv=>hN v (List.mem_append_right _ hv)
  show(d.gW w).sigs l=_
  cases hh:(d.s.ag.aD.getD w.mutex.toNat iH).held with
  | true =>
   have hin:w.who∈W:=by
    rcases hM w List.mem_cons_self with h | h
    ·rw[hh] at h;exact absurd h hnot
    ·exact h
   have e1:d.gW w=({d with s:=d.s.aj w.who.toNat {u with why:=1 } }:Dng).aY {d.s.ag with aD:=d.s.ag.aD.set w.mutex.toNat ((d.s.ag.aD.getD w.mutex.toNat iH).lock w.who).2 }:=by
    unfold Dng.gW;rw[if_pos hh,cV hu]
   rw[wI l (d.gW w) W hlr hn2 h0 hM' hN' (fun v hv=>by
    by_cases ev:v.toNat=w.who.toNat
    ·left;rw[e1,ev];exact⟨_,bS hu,rfl⟩
    ·rcases hB v hv with ⟨u',h1,h2⟩ | ⟨z,hz,e⟩
     ·left;rw[e1];exact⟨u',cn h1 (fun h=>ev h.symm),h2⟩
     ·rcases List.mem_cons.1 hz with rfl | hz
      ·exact absurd (by rw[e]) ev
      ·exact .inr ⟨z,hz,e⟩)]
   simp only[if_true,List.nil_append]
   congr 1
   unfold Dng.all
   generalize (sigRun l (d.gW w).s.ag.aD []).1=M
   rw[e1]
   exact congrArg (fun s=>({d with s:=s }:Dng)) (uR W (s:={d.s with ag:={d.s.ag with aD:=M } }) hu ⟨w.who,hin,rfl⟩)
  | false =>
   have hout:w.who ∉ W:=hN w.who (List.mem_append_left _ (by rw[hh];simp))
   have hW:∀ v∈W,v.toNat≠w.who.toNat:=fun v hv e=>hout (by
    have:=h0 v hv
    rw[show w.who=v from by omega];exact hv)
   have e1:d.gW w=(d.aY {d.s.ag with aD:=d.s.ag.aD.set w.mutex.toNat ((d.s.ag.aD.getD w.mutex.toNat iH).lock w.who).2 }).dW w.who.toNat 0:=by
    unfold Dng.gW;rw[if_neg (by rw[hh];simp)]
   rw[wI l (d.gW w) W hlr hn2 h0 hM' hN' (fun v hv=>by
    rcases hB v hv with ⟨u',h1,h2⟩ | ⟨z,hz,e⟩
    ·left;rw[e1];exact⟨u',cn (s:={d.s with ag:=_ }) h1 (fun h=>hW v hv h.symm),h2⟩
    ·rcases List.mem_cons.1 hz with rfl | hz
     ·exact absurd (by rw[e];exact hv) hout
     ·exact .inr ⟨z,hz,e⟩)]
   simp only[Bool.false_eq_true,if_false,List.singleton_append]
   show _=((d.all _ W).dW w.who.toNat 0).dy _
   congr 1
   generalize (sigRun l (d.gW w).s.ag.aD []).1=M
   rw[e1]
   have k1:=yx (n:=w.who.toNat) W (s:={d.s with ag:={d.s.ag with aD:=M } }) hW
   have k2:=sP (n:=w.who.toNat) (t1:=(d.s.t w.who.toNat).cS 0) W (s:={d.s with ag:={d.s.ag with aD:=M } }) hW
   refine Jr (fun s e=>(⟨s,d.n,d.i,d.choice,{d.out with aL:=d.out.aL++[((w.who.toNat:Nat):Int)] },e⟩:Dng)) ?_ ?_
   ·refine Eq.trans k2 ?_
    congr 1
    exact(congrArg (fun t:bF=>t.cS 0) k1).symm
   ·exact congrArg (fun t:bF=>d.ends++[t.dH 0]) k1.symm
end
end Go.SLYtefdijgllbkmfaaGreat
