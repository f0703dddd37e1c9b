/- Walks of functions, and what they compute. Conditions: none, this text proves no statement. -/
import Derived.Test.YtefdijgllbkmfaaGreatH06
import Derived.Test.YtefdijgllbkmfaaGreatProg
import Derived.Test.YtefdijgllbkmfaaGreatH07
import Derived.KernelRfl
import Derived.Test.YtefdijgllbkmfaaGreatH04
import Derived.Test.YtefdijgllbkmfaaGreatH05
set_option maxRecDepth 20000
set_option maxHeartbeats 4000000
namespace Go.SLYtefdijgllbkmfaaGreat
open Go Go.RowKit Go.Proofs Go.Proofs.Tryz
attribute [local irreducible] ax aQ bu cj bQ Y
set_option maxHeartbeats 1000000 in
theorem zY{W:World}{ba b:Nat}{v:RV}{a:RA}{x y:Int}(hk:uG a)(_hop:33≤a.i.op∧a.i.op≤38)(hx:0≤x∧x≤18446744073709551615)(hy:0≤y∧y≤18446744073709551615):Fn Tryz.prog W 135 [ptr ba,.int .u64 x,.int .u64 y] [cB ba b v a] Unit (fun _=>.tuple #[]) (fun _=>True) (fun _=>[cB ba b v (a.kernel x y)]):=by
 refine Fn.intro (N:=209) func135 rfl ntmps135 rfl fun F=>?_
 show ax _ _ _ _ _ _ [cB ba b v a,F]
 refine .o2 (C:=cB ba b v (a)) .auto rfl ?_
 rintro vw vl -
 refine .fr (A:=bV b v (a).s) .auto bx ?_
 refine .o1 (C:=iL bF 1 b 318 a.s.blk) .auto rfl ?_
 rintro vb -
 refine .o1 (C:=iL ec 4 b 319 a.s.ask) .auto rfl ?_
 rintro va -
 have hn:=hk.n
 have hnn:=hk.nn
 have hI:=hk.I
 have hIn:=hI.n
 have hIa:=hI.a
 have hbl:=hk.bl
 have hnw:=hk.nw
 refine J 1 ?_
 refine .draw [arr ba 0 (lh b (a) vw vl)] [0,0,0,0,0,0,0,0,2,1,3] rfl (by kernel_rfl) ?_
 refine J 7 ?_
 refine .q (.la rfl (Cells.jA (ds:=dI a.i) (Cells.a (cs:=lh b a vw vl)) rfl)) ?_
 refine .d2 rfl Kept.auto (af.alloc rfl zeroValue131 rfl) (by rintro _ _ ⟨b7,rfl,rfl⟩;exact Kept.auto) ?_
 rintro _ _ ⟨b7,rfl,rfl⟩
 refine J 1 ?_
 refine .d3 rfl (af.tP (by exact sizeOf131) rfl rfl rfl (by rfl)) ?_
 rintro _ _ ⟨rfl,rfl⟩
 refine JD 16 (fun h27=>?_) fun h27=>?_
 ·refine J 2 ?_
  first | refine ax.dN rfl (fun _=>?_) (fun hc=>absurd h27 hc) | refine ax.cond rfl (fun _=>?_) (fun hc=>by rw[h27] at hc;cases hc)
  refine J 1 ?_
  refine .draw [] [1,1,1,1,1,1,1] rfl (by kernel_rfl) ?_
  refine J 3 ?_
  refine .p (.add rfl rfl (by omega)) ?_
  refine J 13 ?_
  refine .dN rfl (fun hc=>absurd hc (by omega)) (fun _=>?_)
  refine J 11 ?_
  refine .p (.gh underlying3 underlying38 rfl (by omega)) ?_
  refine JD 3 (fun h46=>?_) fun h46=>?_
  ·refine J 5 ?_
   refine .c call129 rfl (cx (a:=a) (x:=y) (y:=0) (e:=1) hk.n (by show a.s.au.length≤_;have:=hk.r;omega) (by decide)) fun _ _=>?_
   refine J 5 ?_
   rw[JK h27,wN h46]
   exact JR 0 ()
  ·refine J 3 ?_
   refine .draw [arr ba 0 (lh b (a) vw vl),arr b 319 [va],arr b7 0 (dI a.i)] [0,0,0,0,0,1,1,1,1,1,1,1,1,1,1,1,2,2,1,1,3] rfl (by kernel_rfl) ?_
   refine J 10 ?_
   refine .p (.gy underlying38 underlying3 rfl (by omega)) ?_
   refine J 4 ?_
   refine .p (.BS (fun v1 v2 v3 v4=>[v1,v2,v3,v4]) rfl rfl rfl rfl (by kernel_rfl)) ?_
   refine .d2 rfl Kept.auto (af.gQ 175 rfl rfl (by kernel_rfl)) (by rintro _ _ ⟨b67,rfl,rfl⟩;exact Kept.auto) ?_
   rintro _ _ ⟨b67,rfl,rfl⟩
   refine .d2 rfl Kept.auto (af.fi (enc:=ec) (k:=4) (⟨a.n,y,decide (a.i.op=34),0⟩:pE) rfl underlying60 underlying60 typeInfo175 rfl rfl rfl (by decide) rfl rfl rfl .auto rfl .auto (by have:=hk.al;omega) rfl) (by rintro _ _ ⟨v68,rfl,rfl⟩;exact Kept.auto) ?_
   rintro _ _ ⟨v68,rfl,rfl⟩
   refine J 2 ?_
   refine .d3 rfl (af.nf sizeOf60 rfl rfl rfl) ?_
   rintro _ _ ⟨rfl,rfl⟩
   refine J 7 ?_
   refine .c call133 rfl (gr (a:=(a.w {a.s with ask:=a.s.ask++[⟨a.n,y,decide (a.i.op=34),0⟩] })) (why:=5) (into:=a.i.a+1) (x:=y) (y:=0) hk.n (by show a.s.au.length≤_;have:=hk.r;omega)) fun _ _=>?_
   refine J 2 ?_
   rw[JK h27,wO h46]
   exact JR 0 ()
 ·refine JD 5 (fun h27b=>?_) fun h27b=>?_
  ·have h27:=h27b
   refine J 1 ?_
   refine .draw [] [1,1,1,1,1,1,1] rfl (by kernel_rfl) ?_
   refine J 3 ?_
   refine .p (.add rfl rfl (by omega)) ?_
   refine J 13 ?_
   refine .dN rfl (fun _=>?_) (fun hc=>absurd (by omega) hc)
   refine J 17 ?_
   refine .p (.gh underlying3 underlying38 rfl (by omega)) ?_
   refine JD 3 (fun h46=>?_) fun h46=>?_
   ·refine J 5 ?_
    refine .c call129 rfl (cx (a:=a) (x:=x) (y:=y) (e:=1) hk.n (by show a.s.au.length≤_;have:=hk.r;omega) (by decide)) fun _ _=>?_
    refine J 5 ?_
    rw[JL h27,wN h46]
    exact JR 0 ()
   ·refine J 3 ?_
    refine .draw [arr ba 0 (lh b (a) vw vl),arr b 319 [va],arr b7 0 (dI a.i)] [0,0,0,0,0,1,1,1,1,1,1,1,1,1,1,1,2,2,1,1,3] rfl (by kernel_rfl) ?_
    refine J 10 ?_
    refine .p (.gy underlying38 underlying3 rfl (by omega)) ?_
    refine J 4 ?_
    refine .p (.BS (fun v1 v2 v3 v4=>[v1,v2,v3,v4]) rfl rfl rfl rfl (by kernel_rfl)) ?_
    refine .d2 rfl Kept.auto (af.gQ 175 rfl rfl (by kernel_rfl)) (by rintro _ _ ⟨b67,rfl,rfl⟩;exact Kept.auto) ?_
    rintro _ _ ⟨b67,rfl,rfl⟩
    refine .d2 rfl Kept.auto (af.fi (enc:=ec) (k:=4) (⟨a.n,x,decide (a.i.op=34),y⟩:pE) rfl underlying60 underlying60 typeInfo175 rfl rfl rfl (by decide) rfl rfl rfl .auto rfl .auto (by have:=hk.al;omega) rfl) (by rintro _ _ ⟨v68,rfl,rfl⟩;exact Kept.auto) ?_
    rintro _ _ ⟨v68,rfl,rfl⟩
    refine J 2 ?_
    refine .d3 rfl (af.nf sizeOf60 rfl rfl rfl) ?_
    rintro _ _ ⟨rfl,rfl⟩
    refine J 7 ?_
    refine .c call133 rfl (gr (a:=(a.w {a.s with ask:=a.s.ask++[⟨a.n,x,decide (a.i.op=34),y⟩] })) (why:=5) (into:=0) (x:=x) (y:=y) hk.n (by show a.s.au.length≤_;have:=hk.r;omega)) fun _ _=>?_
    refine J 2 ?_
    rw[JL h27,wO h46]
    exact JR 0 ()
  ·refine JD 6 (fun h76=>?_) fun h76=>?_
   ·refine J 1 ?_
    refine .draw [] [1,1,1,1,1,1,1,1] rfl (by kernel_rfl) ?_
    have hlt:a.i.n.toNat<a.s.jv.length:=by have:=hk.o5 (by omega);omega
    obtain⟨u,hu⟩:=ay hlt
    have hpw:=hk.pw u (List.mem_of_getElem? hu)
    refine .fb (fun w st=>st.fact .auto (eV (Nat.lt_of_le_of_lt (Nat.zero_le _) hlt))) fun hSP=>?_
    refine J 6 ?_
    refine .p (.tu a.i.n.toNat underlying59 sizeOf140 rfl rfl hSP (show a.i.n=((a.i.n.toNat:Nat):Int) by omega) hlt) ?_
    refine J 5 ?_
    refine .draw [] [1,1,1,1,1,1,1,1,1,1,1,1,1,1,1,1,1,1] rfl (by kernel_rfl) ?_
    refine .fr .auto (fR (enc:=dR) (k:=4) (inner:=dS) (fun _=>rfl) hu) ?_
    refine .o1 (C:=cI dR dS (blk v.u) (cC v.u+a.i.n.toNat * 4) u) .auto rfl ?_
    rintro⟨v1,v2,v3⟩ -
    rw[show dS ((v1,v2,v3),u)=seps [sl bF 1 v1 (u).words,sl eP 2 v2 (u).bP,sl aL 1 v3 (u).bC] from rfl,show dR ((v1,v2,v3),u)=[.int .i64 (u).room,v1,v2,v3] from rfl]
    refine .fY .auto ?_
    refine J 7 ?_
    apply bu.fZ 11 102 91 [91,92,93,94,95,96,97,98,99,100,101,102] rfl
    ·intro h91
     exact JS 12
    ·intro h91
     exact JS 12
    refine JD 2 (fun h102=>?_) fun h102=>?_
    ·simp only[Bool.and_eq_true,decide_eq_true_eq] at h102
     have h102:u.bC.length=0∧(u.words.length:Int)=u.room:=⟨by omega,h102.2⟩
     refine J 1 ?_
     refine .draw [arr ba 0 (lh b (a) vw vl),arr (blk v.u) (cC v.u+a.i.n.toNat * 4) [.int .i64 (u).room,v1,v2,v3]] [0,0,0,0,0,1,1,1,1,1,1,2,2,1,1,3] rfl (by kernel_rfl) ?_
     refine J 10 ?_
     refine .p (.gH (fun v1 v2=>[v1,v2]) rfl rfl (by kernel_rfl)) ?_
     refine .d2 rfl Kept.auto (af.gQ 295 rfl rfl (by kernel_rfl)) (by rintro _ _ ⟨b114,rfl,rfl⟩;exact Kept.auto) ?_
     rintro _ _ ⟨b114,rfl,rfl⟩
     refine .d2 rfl Kept.auto (af.fi (enc:=eP) (k:=2) (⟨a.n,x⟩:Ptr) rfl underlying138 underlying138 typeInfo295 rfl rfl rfl (by decide) rfl rfl rfl .auto rfl .auto (by have:=hpw.2.1;omega) rfl) (by rintro _ _ ⟨v115,rfl,rfl⟩;exact Kept.auto) ?_
     rintro _ _ ⟨v115,rfl,rfl⟩
     refine J 2 ?_
     refine .d3 rfl (af.vH sizeOf138 rfl rfl rfl) ?_
     rintro _ _ ⟨rfl,rfl⟩
     refine J 8 ?_
     refine .to (A:=cI dR dS (blk v.u) (cC v.u+a.i.n.toNat * 4) ({u with bP:=u.bP++[(⟨a.n,x⟩:Ptr)] })) (Bs:=[arr (blk v.u) (cC v.u+a.i.n.toNat * 4) [.int .i64 ({u with bP:=u.bP++[(⟨a.n,x⟩:Ptr)] }).room,v1,v115,v3],sl bF 1 v1 ({u with bP:=u.bP++[(⟨a.n,x⟩:Ptr)] }).words,sl eP 2 v115 ({u with bP:=u.bP++[(⟨a.n,x⟩:Ptr)] }).bP,sl aL 1 v3 ({u with bP:=u.bP++[(⟨a.n,x⟩:Ptr)] }).bC]) .auto mi ?_
     refine .to (A:=eG dR 4 dS v.u (a.s.jv.set a.i.n.toNat ({u with bP:=u.bP++[(⟨a.n,x⟩:Ptr)] }))) (Bs:=[cI dR dS (blk v.u) (cC v.u+a.i.n.toNat * 4) ({u with bP:=u.bP++[(⟨a.n,x⟩:Ptr)] }),gS dR 4 dS v.u a.s.jv a.i.n.toNat]) .auto (gg ({u with bP:=u.bP++[(⟨a.n,x⟩:Ptr)] })) ?_
     refine .c call133 rfl (gr (a:=(a.w (a.s.oC a.i.n.toNat {u with bP:=u.bP++[(⟨a.n,x⟩:Ptr)] }))) (why:=7) (into:=0) (x:=a.i.n) (y:=x) hk.n (by show a.s.au.length≤_;have:=hk.r;omega)) fun _ _=>?_
     refine J 5 ?_
     rw[Hw h76,uJ hu h102]
     exact JR 0 ()
    ·simp only[Bool.and_eq_false_iff,decide_eq_false_iff_not] at h102
     have h102:¬(u.bC.length=0∧(u.words.length:Int)=u.room):=fun h=>by
      rcases h102 with e | e
      ·exact e (by omega)
      ·exact e h.2
     refine J 8 ?_
     refine .to (A:=cI dR dS (blk v.u) (cC v.u+a.i.n.toNat * 4) (u)) (Bs:=[arr (blk v.u) (cC v.u+a.i.n.toNat * 4) [.int .i64 (u).room,v1,v2,v3],sl bF 1 v1 (u).words,sl eP 2 v2 (u).bP,sl aL 1 v3 (u).bC]) .auto mi ?_
     refine .to (A:=eG dR 4 dS v.u a.s.jv) (Bs:=[cI dR dS (blk v.u) (cC v.u+a.i.n.toNat * 4) (u),gS dR 4 dS v.u a.s.jv a.i.n.toNat]) .auto (gq hu) ?_
     refine .c call129 rfl (cx (a:=a) (x:=a.i.n) (y:=x) (e:=0) hk.n (by show a.s.au.length≤_;have:=hk.r;omega) (by decide)) fun _ _=>?_
     refine J 5 ?_
     refine .o2 (C:=cB ba b v ((a.done a.i.n x 0))) .auto rfl ?_
     rintro vw vl -
     refine .fr (A:=bV b v ((a.done a.i.n x 0)).s) .auto bx ?_
     refine .fr .auto (fR (enc:=dR) (k:=4) (inner:=dS) (fun _=>rfl) (show(a.done a.i.n x 0).s.jv[a.i.n.toNat]?=some u from hu)) ?_
     refine .o1 (C:=cI dR dS (blk v.u) (cC v.u+a.i.n.toNat * 4) u) .auto rfl ?_
     rintro⟨w1,w2,w3⟩ -
     rw[show dS ((w1,w2,w3),u)=seps [sl bF 1 w1 (u).words,sl eP 2 w2 (u).bP,sl aL 1 w3 (u).bC] from rfl,show dR ((w1,w2,w3),u)=[.int .i64 (u).room,w1,w2,w3] from rfl]
     refine .fY .auto ?_
     refine JD 8 (fun h133=>?_) fun h133=>?_
     ·refine J 2 ?_
      obtain⟨w,r,hgt⟩:∃ w r,u.bC=w::r:=by
       cases h:u.bC with
       | nil=>rw[h] at h133;exact absurd h133 (by simp)
       | cons w r=>exact⟨w,r,rfl⟩
      have hgl:=hpw.2.2.1
      have hgx:=hpw.2.2.2.2.2
      rw[hgt] at hgl hgx
      have hw16:=hgx w (List.mem_cons_self ..)
      rw[List.length_cons] at hgl
      rw[hgt]
      refine J 4 ?_
      refine .p (.ix 0 rfl rfl rfl (by simp)) ?_
      refine .p (.dJ (Y.load isAgg3 rfl (Cell.za Rd.s (show(w::r)[0]?=some w from rfl) (by rfl))) (show w=((w.toNat:Nat):Int) by omega)) ?_
      refine J 10 ?_
      refine .c call188 rfl (mh (A:=sl aL 1 w3 (w::r)) (n:=0) (Rd.sl .here) (by simp) (by rw[List.length_cons];omega)) fun u145 _=>?_
      rw[show(w::r).eraseIdx 0=r from rfl]
      refine J 2 ?_
      refine .aw rfl (af.vH sizeOf23 rfl rfl rfl) ?_
      rintro _ _ ⟨rfl,rfl⟩
      refine J 7 ?_
      refine .to (A:=cI dR dS (blk v.u) (cC v.u+a.i.n.toNat * 4) ({u with bC:=r })) (Bs:=[arr (blk v.u) (cC v.u+a.i.n.toNat * 4) [.int .i64 ({u with bC:=r }).room,w1,w2,u145],sl bF 1 w1 ({u with bC:=r }).words,sl eP 2 w2 ({u with bC:=r }).bP,sl aL 1 u145 ({u with bC:=r }).bC]) .auto mi ?_
      refine .to (A:=eG dR 4 dS v.u ((a.done a.i.n x 0).s.jv.set a.i.n.toNat ({u with bC:=r }))) (Bs:=[cI dR dS (blk v.u) (cC v.u+a.i.n.toNat * 4) ({u with bC:=r }),gS dR 4 dS v.u (a.done a.i.n x 0).s.jv a.i.n.toNat]) .auto (gg ({u with bC:=r })) ?_
      refine .c call126 rfl (jm (a:=((a.done a.i.n x 0).w ((a.done a.i.n x 0).s.oC a.i.n.toNat {u with bC:=r }))) (n:=w.toNat) (y:=x) (by omega) (fT.done (a:=a) (x:=a.i.n) (y:=x) (e:=0) hk.T (by decide) _).i (by show a.late.length≤_;have:=hk.l;omega) (by show a.e.aM.length≤_;have:=hk.w;omega)) fun _ _=>?_
      refine J 5 ?_
      rw[Hw h76,uK hu h102 hgt]
      exact JR 0 ()
     ·have hgt:u.bC=[]:=List.eq_nil_of_length_eq_zero (by have h:¬(0:Int)<(u.bC.length:Int):=h133;omega)
      refine J 9 ?_
      refine .aw rfl (af.gQ 38 rfl rfl (by kernel_rfl)) ?_
      rintro _ _ ⟨b158,rfl,rfl⟩
      refine .aw rfl (af.fi (enc:=bF) (k:=1) x rfl underlying55 underlying55 typeInfo38 rfl rfl rfl (by decide) rfl rfl rfl .auto rfl .auto (by have:=hpw.1;omega) rfl) ?_
      rintro _ _ ⟨v159,rfl,rfl⟩
      refine J 2 ?_
      refine .aw rfl (af.vH sizeOf55 rfl rfl rfl) ?_
      rintro _ _ ⟨rfl,rfl⟩
      refine J 2 ?_
      refine .to (A:=cI dR dS (blk v.u) (cC v.u+a.i.n.toNat * 4) ({u with words:=u.words++[x] })) (Bs:=[arr (blk v.u) (cC v.u+a.i.n.toNat * 4) [.int .i64 ({u with words:=u.words++[x] }).room,v159,w2,w3],sl bF 1 v159 ({u with words:=u.words++[x] }).words,sl eP 2 w2 ({u with words:=u.words++[x] }).bP,sl aL 1 w3 ({u with words:=u.words++[x] }).bC]) .auto mi ?_
      refine .to (A:=eG dR 4 dS v.u ((a.done a.i.n x 0).s.jv.set a.i.n.toNat ({u with words:=u.words++[x] }))) (Bs:=[cI dR dS (blk v.u) (cC v.u+a.i.n.toNat * 4) ({u with words:=u.words++[x] }),gS dR 4 dS v.u (a.done a.i.n x 0).s.jv a.i.n.toNat]) .auto (gg ({u with words:=u.words++[x] })) ?_
      rw[Hw h76,yz hu h102 hgt]
      exact JR 0 ()
   ·refine JD 6 (fun h162=>?_) fun h162=>?_
    ·refine .draw [] [1,1,1,1,1,1,1,1,3] rfl (by kernel_rfl) ?_
     refine J 1 ?_
     have hlt:a.i.n.toNat<a.s.jv.length:=by have:=hk.o5 (by omega);omega
     obtain⟨u,hu⟩:=ay hlt
     have hpw:=hk.pw u (List.mem_of_getElem? hu)
     refine .fb (fun w st=>st.fact .auto (eV (Nat.lt_of_le_of_lt (Nat.zero_le _) hlt))) fun hSP=>?_
     refine J 6 ?_
     refine .p (.tu a.i.n.toNat underlying59 sizeOf140 rfl rfl hSP (show a.i.n=((a.i.n.toNat:Nat):Int) by omega) hlt) ?_
     refine .c call189 rfl (Hy hk hu) fun _ _=>?_
     refine J 2 ?_
     rw[KZ h162]
     exact JR 0 ()
    ·refine JD 6 (fun h173=>?_) fun h173=>?_
     ·refine JD 8 (fun h197=>?_) fun h197=>?_
      ·refine J 3 ?_
       refine .c call129 rfl (cx (a:=a) (x:=x) (y:=0) (e:=0) hk.n (by show a.s.au.length≤_;have:=hk.r;omega) (by decide)) fun _ _=>?_
       refine J 3 ?_
       rw[Fs h173,BB h197]
       exact JR 0 ()
      ·refine JD 7 (fun h203=>?_) fun h203=>?_
       ·refine J 3 ?_
        refine .c call129 rfl (cx (a:=a) (x:=x) (y:=0) (e:=1) hk.n (by show a.s.au.length≤_;have:=hk.r;omega) (by decide)) fun _ _=>?_
        refine J 3 ?_
        rw[Fs h173,uN h197 h203]
        exact JR 0 ()
       ·refine J 7 ?_
        refine .p (.gy underlying38 underlying3 rfl (by omega)) ?_
        refine .p (.add rfl rfl (by omega)) ?_
        refine JD 10 (fun h183=>?_) fun h183=>?_
        ·refine J 5 ?_
         refine .draw [] [1,1,1,1,1,1,1,1,1,1,3] rfl (by kernel_rfl) ?_
         refine J 6 ?_
         refine .p (.add rfl rfl (by omega)) ?_
         refine J 2 ?_
         refine .p (.aD _ underlying61 sizeOf3 rfl rfl rfl (by first | omega | exact hn | decide)) ?_
         refine .d3 rfl (af.JI sizeOf3 rfl rfl (by omega)) ?_
         rintro _ _ ⟨rfl,rfl⟩
         refine J 5 ?_
         refine .c call133 rfl (gr (a:=(a.w {a.s with til:=dU a.s.til a.n (1099511627776+1) })) (why:=8) (into:=0) (x:=x) (y:=0) hk.n (by show a.s.au.length≤_;have:=hk.r;omega)) fun _ _=>?_
         refine J 3 ?_
         rw[Fs h173,sQ h197 h203 (t:=1099511627776+1) (by omega)]
         exact JR 0 ()
        ·refine J 3 ?_
         refine .draw [] [1,1,1,1,1,1,1,1,1,1,3] rfl (by kernel_rfl) ?_
         refine J 6 ?_
         refine .p (.add rfl rfl (by omega)) ?_
         refine J 2 ?_
         refine .p (.aD _ underlying61 sizeOf3 rfl rfl rfl (by first | omega | exact hn | decide)) ?_
         refine .d3 rfl (af.JI sizeOf3 rfl rfl (by omega)) ?_
         rintro _ _ ⟨rfl,rfl⟩
         refine J 5 ?_
         refine .c call133 rfl (gr (a:=(a.w {a.s with til:=dU a.s.til a.n (a.s.now+x+1) })) (why:=8) (into:=0) (x:=x) (y:=0) hk.n (by show a.s.au.length≤_;have:=hk.r;omega)) fun _ _=>?_
         refine J 3 ?_
         rw[Fs h173,sQ h197 h203 (t:=a.s.now+x+1) (by omega)]
         exact JR 0 ()
     ·refine J 3 ?_
      refine .c call129 rfl (cx (a:=a) (x:=x) (y:=0) (e:=0) hk.n (by show a.s.au.length≤_;have:=hk.r;omega) (by decide)) fun _ _=>?_
      refine J 2 ?_
      rw[K0 h27 h27b h76 h162 h173]
      exact JR 0 ()
set_option maxHeartbeats 2000000 in
theorem Fu{W:World}{ba b:Nat}{v:RV}{a:RA}{choice:Int}(hk:uG a):Fn Tryz.prog W 91 [ptr ba,.int .i64 choice] [cB ba b v a] Unit (fun _=>.tuple #[]) (fun _=>True) (fun _=>[cB ba b v (a.call choice)]):=by
 refine Fn.intro (N:=272) func91 rfl ntmps91 rfl fun F=>?_
 show ax _ _ _ _ _ _ [cB ba b v a,F]
 refine .o2 (C:=cB ba b v (a)) .auto rfl ?_
 rintro vw vl -
 refine .fr (A:=bV b v (a).s) .auto bx ?_
 have hn:=hk.n
 have hnn:=hk.nn
 have hI:=hk.I
 have hIn:=hI.n
 have hIa:=hI.a
 have hIb:=hI.b
 have hx64:=(hk.T a.n).r a.i.a.toNat
 have hy64:=(hk.T a.n).r a.i.b.toNat
 have hoo:=hk.oo
 refine J 1 ?_
 refine .draw [arr ba 0 (lh b (a) vw vl)] [0,0,0,0,0,0,0,0,2,1,3] rfl (by kernel_rfl) ?_
 refine J 7 ?_
 refine .q (.la rfl (Cells.jA (ds:=dI a.i) (Cells.a (cs:=lh b a vw vl)) rfl)) ?_
 refine .d2 rfl Kept.auto (af.alloc rfl zeroValue131 rfl) (by rintro _ _ ⟨b5,rfl,rfl⟩;exact Kept.auto) ?_
 rintro _ _ ⟨b5,rfl,rfl⟩
 refine J 1 ?_
 refine .d3 rfl (af.tP (by exact sizeOf131) rfl rfl rfl (by rfl)) ?_
 rintro _ _ ⟨rfl,rfl⟩
 refine J 3 ?_
 refine .draw [] [1,1,1,1,1,1,1,1,1,1,1,1,1,1,1,1,1,1,1,1,1,1,1,1,1,1,1,1] rfl (by kernel_rfl) ?_
 refine J 9 ?_
 refine .p (.aD _ underlying54 sizeOf53 rfl rfl rfl (by first | omega | exact hn | decide)) ?_
 refine J 1 ?_
 refine .p (.aD a.i.a.toNat underlying39 sizeOf38 rfl rfl (by omega) (by omega)) ?_
 refine .p (.ld rfl (Cell.tr (by first | omega | exact hn) (by omega))) ?_
 refine J 9 ?_
 refine .p (.aD _ underlying54 sizeOf53 rfl rfl rfl (by first | omega | exact hn | decide)) ?_
 refine J 1 ?_
 refine .p (.aD a.i.b.toNat underlying39 sizeOf38 rfl rfl (by omega) (by omega)) ?_
 refine .p (.ld rfl (Cell.tr (by first | omega | exact hn) (by omega))) ?_
 refine JD 17 (fun h51=>?_) fun h51=>?_
 ·refine J 5 ?_
  refine .p (.gy underlying38 underlying3 rfl (by omega)) ?_
  refine J 1 ?_
  refine .c call68 rfl (uB (s:=a.s) (f:=a.i.n) (arg:=((a.s.thr a.n).aq a.i.b.toNat))) fun _ _=>?_
  refine JD 10 (fun h60=>?_) fun h60=>?_
  ·refine .fr (A:=bV b v (a.s.begin a.i.n ((a.s.thr a.n).aq a.i.b.toNat)).2) .auto bx ?_
   refine J 1 ?_
   refine .draw [] [1,1,1,1,1,1,1,1,1,1,1,1,3] rfl (by kernel_rfl) ?_
   refine J 9 ?_
   refine .p (.aD _ underlying54 sizeOf53 rfl rfl rfl (by first | omega | exact hn | decide)) ?_
   refine J 1 ?_
   refine .p (.aD a.i.a.toNat underlying39 sizeOf38 rfl rfl (by omega) (by omega)) ?_
   refine .d3 rfl (af.qR sizeOf38 rfl rfl (by first | omega | exact hn) (by first | omega | decide)) ?_
   rintro _ _ ⟨rfl,rfl⟩
   refine J 7 ?_
   refine .c call129 rfl (cx (a:=((a.sp ((a.s.thr a.n).aq a.i.b.toNat)).aj ((a.sp ((a.s.thr a.n).aq a.i.b.toNat)).t.put a.i.a 0))) (x:=a.i.n) (y:=0) (e:=2) hk.n (by show(a.sp ((a.s.thr a.n).aq a.i.b.toNat)).s.au.length≤_;rw[show(a.sp ((a.s.thr a.n).aq a.i.b.toNat)).s.au=a.s.au from qG];have:=hk.r;omega) (by decide)) fun _ _=>?_
   refine J 5 ?_
   rw[JN h51,show a.spawn (a.t.eX a.i.b)=_ from Ft h60]
   exact JR 0 ()
  ·refine J 3 ?_
   refine .draw [] [1,1,1,1,1,1,1,1,1,1,1,1,1,1,1,1,1,1,1,3] rfl (by kernel_rfl) ?_
   have hbn:=CO h60
   refine .fr (A:=bV b v (a.s.begin a.i.n ((a.s.thr a.n).aq a.i.b.toNat)).2) .auto bx ?_
   refine J 11 ?_
   refine .p (.aD (a.s.begin a.i.n ((a.s.thr a.n).aq a.i.b.toNat)).1.toNat underlying54 sizeOf53 rfl rfl hbn.1 hbn.2) ?_
   refine J 1 ?_
   refine .p (.ld rfl (Cell.t (by first | omega | exact hn) rfl)) ?_
   refine J 2 ?_
   refine .p (.aD _ underlying54 sizeOf53 rfl rfl rfl (by first | omega | exact hn | decide)) ?_
   refine J 1 ?_
   refine .p (.aD a.i.a.toNat underlying39 sizeOf38 rfl rfl (by omega) (by omega)) ?_
   refine .d3 rfl (af.qR sizeOf38 rfl rfl (by first | omega | exact hn) (by first | omega | decide)) ?_
   rintro _ _ ⟨rfl,rfl⟩
   refine J 6 ?_
   refine .aw rfl (af.gQ 3 rfl rfl (by kernel_rfl)) ?_
   rintro _ _ ⟨b98,rfl,rfl⟩
   refine .to (A:=sl aL 1 (.slice (some ⟨b98,0,none⟩) 1 1) [(a.s.begin a.i.n ((a.s.thr a.n).aq a.i.b.toNat)).1]) (Bs:=[arr b98 0 [.int .i64 (a.s.begin a.i.n ((a.s.thr a.n).aq a.i.b.toNat)).1]]) .auto (vA _ rfl (fun _ _=>rfl) (by simp[rows,aL])) ?_
   refine J 3 ?_
   refine .aw rfl (af.pz sizeOf23 rfl rfl rfl) ?_
   rintro _ _ ⟨rfl,rfl⟩
   refine J 2 ?_
   refine .draw [] [1,1,1,1,1,1,1,1,1,1,3] rfl (by kernel_rfl) ?_
   refine J 7 ?_
   refine .p (.aD (a.s.begin a.i.n ((a.s.thr a.n).aq a.i.b.toNat)).1.toNat underlying54 sizeOf53 rfl rfl hbn.1 hbn.2) ?_
   refine J 1 ?_
   refine .p (.dJ (Y.load isAgg38 rfl (Cell.t (f:=((a.sp ((a.s.thr a.n).aq a.i.b.toNat)).aj ((a.sp ((a.s.thr a.n).aq a.i.b.toNat)).t.put a.i.a ((a.sp ((a.s.thr a.n).aq a.i.b.toNat)).s.t (a.s.begin a.i.n ((a.s.thr a.n).aq a.i.b.toNat)).1.toNat).handle)).s.thr) (n:=(a.s.begin a.i.n ((a.s.thr a.n).aq a.i.b.toNat)).1.toNat) (j:=1) hbn.2 rfl)) (show _=((a.sp ((a.s.thr a.n).aq a.i.b.toNat)).s.t (a.s.begin a.i.n ((a.s.thr a.n).aq a.i.b.toNat)).1.toNat).handle from sR)) ?_
   refine .c call129 rfl (cx (a:=(a.qP ((a.s.thr a.n).aq a.i.b.toNat) ((a.sp ((a.s.thr a.n).aq a.i.b.toNat)).s.t (a.s.begin a.i.n ((a.s.thr a.n).aq a.i.b.toNat)).1.toNat).handle (a.s.begin a.i.n ((a.s.thr a.n).aq a.i.b.toNat)).1)) (x:=a.i.n) (y:=((a.sp ((a.s.thr a.n).aq a.i.b.toNat)).s.t (a.s.begin a.i.n ((a.s.thr a.n).aq a.i.b.toNat)).1.toNat).handle) (e:=0) hk.n (by show(a.sp ((a.s.thr a.n).aq a.i.b.toNat)).s.au.length≤_;rw[show(a.sp ((a.s.thr a.n).aq a.i.b.toNat)).s.au=a.s.au from qG];have:=hk.r;omega) (by decide)) fun _ _=>?_
   refine J 2 ?_
   rw[JN h51,show a.spawn (a.t.eX a.i.b)=_ from CP h60]
   exact JR 0 ()
 ·refine JD 6 (fun h113=>?_) fun h113=>?_
  ·refine J 1 ?_
   refine .draw [] [1,1,1,1,1,1,1,1,1,1,1,1,1,1,1,1,1,1,1,1,1,1,3] rfl (by kernel_rfl) ?_
   refine J 14 ?_
   refine .p (.aD _ underlying54 sizeOf53 rfl rfl rfl (by first | omega | exact hn | decide)) ?_
   refine J 1 ?_
   refine .p (.ld rfl (Cell.t (by first | omega | exact hn) rfl)) ?_
   refine J 2 ?_
   refine .p (.aD _ underlying54 sizeOf53 rfl rfl rfl (by first | omega | exact hn | decide)) ?_
   refine J 1 ?_
   refine .p (.aD a.i.a.toNat underlying39 sizeOf38 rfl rfl (by omega) (by omega)) ?_
   refine .d3 rfl (af.qR sizeOf38 rfl rfl (by first | omega | exact hn) (by first | omega | decide)) ?_
   rintro _ _ ⟨rfl,rfl⟩
   refine J 2 ?_
   refine .draw [] [1,1,1,1,1,1,1,1,1,1,1,3] rfl (by kernel_rfl) ?_
   refine J 8 ?_
   refine .p (.aD _ underlying54 sizeOf53 rfl rfl rfl (by first | omega | exact hn | decide)) ?_
   refine J 1 ?_
   refine .p (.dJ (Y.load isAgg38 rfl (Cell.t (f:=(a.aj (a.t.put a.i.a a.t.handle)).s.thr) (n:=a.n) (j:=1) hn rfl)) (show _=a.t.handle from sR)) ?_
   refine .c call129 rfl (cx (a:=(a.aj (a.t.put a.i.a a.t.handle))) (x:=0) (y:=a.t.handle) (e:=0) hk.n (by show a.s.au.length≤_;have:=hk.r;omega) (by decide)) fun _ _=>?_
   refine J 2 ?_
   rw[K1 h113]
   exact JR 0 ()
  ·refine JD 6 (fun h149=>?_) fun h149=>?_
   ·refine J 3 ?_
    refine .c call129 rfl (cx (a:=a) (x:=0) (y:=0) (e:=0) hk.n (by show a.s.au.length≤_;have:=hk.r;omega) (by decide)) fun _ _=>?_
    refine J 3 ?_
    refine .o2 (C:=cB ba b v (a.done 0 0 0)) .auto rfl ?_
    rintro vw vl -
    refine J 5 ?_
    rw[Fp]
    refine J 2 ?_
    rw[K2 h149]
    exact JR 0 ()
   ·refine JD 6 (fun h157=>?_) fun h157=>?_
    ·refine J 3 ?_
     refine .c call130 rfl (Fq (h:=((a.s.thr a.n).aq a.i.b.toNat)) hk.n (by have:=hk.r;omega) hI) fun _ _=>?_
     refine J 2 ?_
     rw[K3 h157,show a.join (a.t.eX a.i.b)=a.join ((a.s.thr a.n).aq a.i.b.toNat) from rfl]
     exact JR 0 ()
    ·refine JD 6 (fun h162=>?_) fun h162=>?_
     ·refine J 4 ?_
      refine .c call131 rfl (uE (h:=((a.s.thr a.n).aq a.i.a.toNat)) hk.n) fun _ _=>?_
      refine J 1 ?_
      refine .o2 (C:=cB ba b v (a)) .auto rfl ?_
      rintro vw vl -
      refine .fr (A:=bV b v (a).s) .auto bx ?_
      refine .p (.extract (v:=.int .i64 (a.other ((a.s.thr a.n).aq a.i.a.toNat)).1) rfl rfl) ?_
      refine .p (.extract (v:=.int .i64 (a.other ((a.s.thr a.n).aq a.i.a.toNat)).2) rfl rfl) ?_
      refine J 10 ?_
      apply aQ.fZ 9 181 172 [172,173,174,175,176,177,178,179,180,181] rfl
      ·intro h172
       have ho:=kC h172
       refine J 4 ?_
       refine .g (.aD (a.other ((a.s.thr a.n).aq a.i.a.toNat)).1.toNat underlying54 sizeOf53 rfl rfl ho.1 ho.2.1) ?_
       refine J 1 ?_
       refine .g (.ld rfl (Cell.t (by first | omega | exact hn) rfl)) ?_
       exact JS 3
      ·intro h172
       exact JS 10
      refine JD 2 (fun h181=>?_) fun h181=>?_
      ·simp only[Bool.and_eq_true,decide_eq_true_eq] at h181
       refine J 1 ?_
       have ho:=kC h181.1
       refine J 4 ?_
       refine .p (.aD (a.other ((a.s.thr a.n).aq a.i.a.toNat)).1.toNat underlying54 sizeOf53 rfl rfl ho.1 ho.2.1) ?_
       refine J 1 ?_
       refine .aw rfl (af.Bu sizeOf4 rfl rfl (by first | omega | exact hn)) ?_
       rintro _ _ ⟨rfl,rfl⟩
       refine J 6 ?_
       refine .c call129 rfl (cx (a:=({a with s:=a.s.aj (a.other ((a.s.thr a.n).aq a.i.a.toNat)).1.toNat {a.s.t (a.other ((a.s.thr a.n).aq a.i.a.toNat)).1.toNat with used:=false } }:RA)) (x:=((a.s.thr a.n).aq a.i.a.toNat)) (y:=0) (e:=(a.other ((a.s.thr a.n).aq a.i.a.toNat)).2) hk.n (by show a.s.au.length≤_;have:=hk.r;omega) (by have:=jl (thr:=a.s.thr) (self:=a.n) (h:=((a.s.thr a.n).aq a.i.a.toNat)) (f:=16) (n:=0);show 0≤(cA _ _ _ _ _).2∧(cA _ _ _ _ _).2≤11;omega)) fun _ _=>?_
       refine J 2 ?_
       rw[Hz h162,show a.cO (a.t.eX a.i.a)=_ from Hu h181.1 (kC h181.1).1 h181.2]
       exact JR 0 ()
      ·simp only[Bool.and_eq_false_iff,decide_eq_false_iff_not] at h181
       refine JD 6 (fun h189=>?_) fun h189=>?_
       ·refine J 1 ?_
        have ho:=kC h189
        refine J 4 ?_
        refine .p (.aD (a.other ((a.s.thr a.n).aq a.i.a.toNat)).1.toNat underlying54 sizeOf53 rfl rfl ho.1 ho.2.1) ?_
        refine J 1 ?_
        refine .aw rfl (af.L3 sizeOf4 rfl rfl (by first | omega | exact hn)) ?_
        rintro _ _ ⟨rfl,rfl⟩
        refine J 6 ?_
        refine .c call129 rfl (cx (a:=({a with s:=a.s.aj (a.other ((a.s.thr a.n).aq a.i.a.toNat)).1.toNat {a.s.t (a.other ((a.s.thr a.n).aq a.i.a.toNat)).1.toNat with pA:=true } }:RA)) (x:=((a.s.thr a.n).aq a.i.a.toNat)) (y:=0) (e:=(a.other ((a.s.thr a.n).aq a.i.a.toNat)).2) hk.n (by show a.s.au.length≤_;have:=hk.r;omega) (by have:=jl (thr:=a.s.thr) (self:=a.n) (h:=((a.s.thr a.n).aq a.i.a.toNat)) (f:=16) (n:=0);show 0≤(cA _ _ _ _ _).2∧(cA _ _ _ _ _).2≤11;omega)) fun _ _=>?_
        refine J 2 ?_
        rw[Hz h162,show a.cO (a.t.eX a.i.a)=_ from JJ h189 (kC h189).1 (fun e=>by rcases h181 with h | h;exact h h189;exact h e)]
        exact JR 0 ()
       ·refine J 6 ?_
        refine .c call129 rfl (cx (a:=a) (x:=((a.s.thr a.n).aq a.i.a.toNat)) (y:=0) (e:=(a.other ((a.s.thr a.n).aq a.i.a.toNat)).2) hk.n (by show a.s.au.length≤_;have:=hk.r;omega) (by have:=jl (thr:=a.s.thr) (self:=a.n) (h:=((a.s.thr a.n).aq a.i.a.toNat)) (f:=16) (n:=0);show 0≤(cA _ _ _ _ _).2∧(cA _ _ _ _ _).2≤11;omega)) fun _ _=>?_
        refine J 2 ?_
        rw[Hz h162,show a.cO (a.t.eX a.i.a)=_ from Hv h189]
        exact JR 0 ()
     ·refine JD 6 (fun h200=>?_) fun h200=>?_
      ·refine J 4 ?_
       refine .c call88 rfl (lj (a:=a) (x:=((a.s.thr a.n).aq a.i.a.toNat)) (y:=0) (e:=0) (fin:=true) hk.n (by have:=hk.r;omega)) fun _ _=>?_
       refine J 5 ?_
       refine .c call89 rfl (wK (a:=a.say ((a.s.thr a.n).aq a.i.a.toNat) 0 0 true) (x:=((a.s.thr a.n).aq a.i.a.toNat)) hk.n hk.T (by show a.late.length≤_;have:=hk.l;omega) (by show a.e.aM.length≤_;have:=hk.w;omega)) fun _ _=>?_
       refine J 2 ?_
       rw[K4 h200,show(a.say (a.t.eX a.i.a) 0 0 true).fin (a.t.eX a.i.a)=(a.say ((a.s.thr a.n).aq a.i.a.toNat) 0 0 true).fin ((a.s.thr a.n).aq a.i.a.toNat) from rfl]
       exact JR 0 ()
      ·refine JD 7 (fun h208=>?_) fun h208=>?_
       ·refine J 2 ?_
        first | refine ax.dN rfl (fun _=>?_) (fun hc=>absurd h208 hc) | refine ax.cond rfl (fun _=>?_) (fun hc=>by rw[h208] at hc;cases hc)
        refine J 3 ?_
        refine .c call132 rfl (mj hk (by omega)) fun _ _=>?_
        refine J 2 ?_
        rw[nA (by omega)]
        exact JR 0 ()
       ·refine JD 6 (fun h208=>?_) fun h208=>?_
        ·refine J 2 ?_
         first | refine ax.dN rfl (fun _=>?_) (fun hc=>absurd h208 hc) | refine ax.cond rfl (fun _=>?_) (fun hc=>by rw[h208] at hc;cases hc)
         refine J 3 ?_
         refine .c call132 rfl (mj hk (by omega)) fun _ _=>?_
         refine J 2 ?_
         rw[nA (by omega)]
         exact JR 0 ()
        ·refine JD 6 (fun h208=>?_) fun h208=>?_
         ·refine J 2 ?_
          first | refine ax.dN rfl (fun _=>?_) (fun hc=>absurd h208 hc) | refine ax.cond rfl (fun _=>?_) (fun hc=>by rw[h208] at hc;cases hc)
          refine J 3 ?_
          refine .c call132 rfl (mj hk (by omega)) fun _ _=>?_
          refine J 2 ?_
          rw[nA (by omega)]
          exact JR 0 ()
         ·refine JD 6 (fun h208=>?_) fun h208=>?_
          ·refine J 2 ?_
           first | refine ax.dN rfl (fun _=>?_) (fun hc=>absurd h208 hc) | refine ax.cond rfl (fun _=>?_) (fun hc=>by rw[h208] at hc;cases hc)
           refine J 3 ?_
           refine .c call132 rfl (mj hk (by omega)) fun _ _=>?_
           refine J 2 ?_
           rw[nA (by omega)]
           exact JR 0 ()
          ·refine JD 5 (fun h208=>?_) fun h208=>?_
           ·refine J 3 ?_
            refine .c call132 rfl (mj hk (by omega)) fun _ _=>?_
            refine J 2 ?_
            rw[nA (by omega)]
            exact JR 0 ()
           ·refine JD 6 (fun h217=>?_) fun h217=>?_
            ·refine J 2 ?_
             refine .draw [] [1,1,1,1,1,1,1,1,1] rfl (by kernel_rfl) ?_
             have hlt:a.i.n.toNat<a.s.sw.length:=by have:=hk.o4 (by omega);have:=hk.sl.2;omega
             have hsw:a.s.sw[a.i.n.toNat]?=some (a.s.sw.getD a.i.n.toNat []):=getD_some hlt
             have hsr:=hk.sw _ (List.mem_of_getElem? hsw)
             have hls:a.i.n.toNat<a.s.cf.length:=by have:=hk.o4 (by omega);omega
             have hse:a.s.cf[a.i.n.toNat]?=some (a.s.cf.getD a.i.n.toNat 0):=getD_some hls
             have hsv:=hk.sc _ (List.mem_of_getElem? hse)
             refine .o1 (C:=iL aL 1 b 315 a.s.cf) .auto rfl ?_
             rintro vs -
             refine J 6 ?_
             refine .p (.ig a.i.n.toNat underlying23 sizeOf3 rfl rfl Rd.s (show a.i.n=((a.i.n.toNat:Nat):Int) by omega) hls) ?_
             refine .p (.lr rfl hse) ?_
             refine JD 3 (fun h227=>?_) fun h227=>?_
             ·refine J 1 ?_
              refine .draw [] [1,1,1,1,1,1,1,1,1,1,3] rfl (by kernel_rfl) ?_
              refine J 6 ?_
              refine .p (.ig a.i.n.toNat underlying23 sizeOf3 rfl rfl Rd.s (show a.i.n=((a.i.n.toNat:Nat):Int) by omega) hls) ?_
              refine .p (.lr rfl hse) ?_
              refine J 1 ?_
              refine .p (.ig a.i.n.toNat underlying23 sizeOf3 rfl rfl Rd.s (show a.i.n=((a.i.n.toNat:Nat):Int) by omega) hls) ?_
              refine .d3 rfl (af.gL (x':=(a.s.cf.getD a.i.n.toNat 0)-1) rfl rfl sizeOf3 rfl hse (by decide) rfl .auto) ?_
              rintro _ _ ⟨rfl,rfl⟩
              refine J 7 ?_
              refine .c call129 rfl (cx (a:=(a.w {a.s with cf:=a.s.cf.set a.i.n.toNat ((a.s.cf.getD a.i.n.toNat 0)-1) })) (x:=a.i.n) (y:=0) (e:=0) hk.n (by show a.s.au.length≤_;have:=hk.r;omega) (by decide)) fun _ _=>?_
              refine J 5 ?_
              rw[JO h217,Bz h227]
              exact JR 0 ()
             ·refine .o1 (C:=Lo b a.s.sw) .auto rfl ?_
              rintro vS -
              refine .fb (fun w st=>st.fact .auto (eV (Nat.lt_of_le_of_lt (Nat.zero_le _) hlt))) fun hS=>?_
              refine .fr .auto (fR (enc:=cn) (k:=1) (inner:=jV) (fun _=>rfl) hsw) ?_
              refine .o1 (C:=cI cn jV (blk vS) (cC vS+a.i.n.toNat * 1) (a.s.sw.getD a.i.n.toNat [])) .auto rfl ?_
              rintro uS -
              rw[show jV (uS,(a.s.sw.getD a.i.n.toNat []))=sl aL 1 uS (a.s.sw.getD a.i.n.toNat []) from rfl,show cn (uS,(a.s.sw.getD a.i.n.toNat []))=[uS] from rfl]
              refine J 3 ?_
              refine .draw [arr ba 0 (lh b (a) vw vl),arr b 316 [vS],arr (blk vS) (cC vS+a.i.n.toNat * 1) [uS],arr b5 0 (dI a.i)] [0,0,0,0,0,0,0,0,0,0,0,0,0,0,1,1,1,1,2,2,1,3] rfl (by kernel_rfl) ?_
              refine J 12 ?_
              refine .q (.tu a.i.n.toNat underlying58 sizeOf23 rfl rfl hS (show a.i.n=((a.i.n.toNat:Nat):Int) by omega) hlt) ?_
              refine J 5 ?_
              refine .d2 rfl Kept.auto (af.gQ 3 rfl rfl (by kernel_rfl)) (by rintro _ _ ⟨b260,rfl,rfl⟩;exact Kept.auto) ?_
              rintro _ _ ⟨b260,rfl,rfl⟩
              refine .d2 rfl Kept.auto (af.fi (enc:=aL) (k:=1) (a.n:Int) rfl underlying23 underlying23 typeInfo3 rfl rfl rfl (by decide) rfl rfl rfl .auto rfl .auto (by have:=hsr.1;omega) rfl) (by rintro _ _ ⟨v261,rfl,rfl⟩;exact Kept.auto) ?_
              rintro _ _ ⟨v261,rfl,rfl⟩
              refine .p (.tu a.i.n.toNat underlying58 sizeOf23 rfl rfl hS (show a.i.n=((a.i.n.toNat:Nat):Int) by omega) hlt) ?_
              refine .d3 rfl (af.nf sizeOf23 rfl rfl rfl) ?_
              rintro _ _ ⟨rfl,rfl⟩
              refine J 6 ?_
              refine .to (A:=eG cn 1 jV vS (a.s.sw.set a.i.n.toNat ((a.s.sw.getD a.i.n.toNat [])++[(a.n:Int)]))) (Bs:=[cI cn jV (blk vS) (cC vS+a.i.n.toNat * 1) ((a.s.sw.getD a.i.n.toNat [])++[(a.n:Int)]),gS cn 1 jV vS a.s.sw a.i.n.toNat]) .auto (gg ((a.s.sw.getD a.i.n.toNat [])++[(a.n:Int)])) ?_
              refine .c call133 rfl (gr (a:=(a.w {a.s with sw:=a.s.sw.set a.i.n.toNat ((a.s.sw.getD a.i.n.toNat [])++[(a.n:Int)]) })) (why:=3) (into:=0) (x:=a.i.n) (y:=0) hk.n (by show a.s.au.length≤_;have:=hk.r;omega)) fun _ _=>?_
              refine J 2 ?_
              rw[JO h217,uI h227]
              exact JR 0 ()
            ·refine JD 6 (fun h267=>?_) fun h267=>?_
             ·refine J 3 ?_
              refine .c call134 rfl (JM hk h267) fun _ _=>?_
              refine J 2 ?_
              rw[K5 h267]
              exact JR 0 ()
             ·refine J 4 ?_
              refine .c call135 rfl (zY (x:=((a.s.thr a.n).aq a.i.a.toNat)) (y:=((a.s.thr a.n).aq a.i.b.toNat)) hk (by omega) hx64 hy64) fun _ _=>?_
              refine J 2 ?_
              rw[ID (by omega),show a.kernel (a.t.eX a.i.a) (a.t.eX a.i.b)=a.kernel ((a.s.thr a.n).aq a.i.a.toNat) ((a.s.thr a.n).aq a.i.b.toNat) from rfl]
              exact JR 0 ()
end Go.SLYtefdijgllbkmfaaGreat
namespace Go.SLYtefdijgllbkmfaaGreat
open Go Go.RowKit
theorem Fv{v:bN}{t:RT}{x:Value×List Ins}(h:v.fs[t.fn.toNat]?=some x):gE v.p t=x.2[t.pc.toNat]?:=by
 unfold gE bN.p
 simp only
 rw[List.getD_eq_getElem?_getD,List.getElem?_map,h];rfl
def rReady(s:RSp):Nat→List Int
 | 0=>[]
 | n+1=>rReady s n++(if s.runs (n:Int)=true then [(n:Int)] else [])
def eW(p:eZ)(s:RSp)(n:Nat)(choice:Int):RA:=match gE p (s.t n) with
  | none=>((⟨s,n,⟨23,0,0,0,0⟩,iZ.z,[]⟩:RA).say 0 0 0 true).fin 0
  | some i=>if i.op≤19 then (⟨s,n,i,iZ.z,[]⟩:RA).plain else ((⟨s,n,i,iZ.z,[]⟩:RA).aj {s.t n with pc:=(s.t n).pc+1 }).call choice
theorem K6{p:eZ}{s:RSp}{n:Nat}{choice:Int}:s.run p n choice=((eW p s n choice).e,{(eW p s n choice).s with au:=(eW p s n choice).s.au++(eW p s n choice).late }):=rfl
theorem uR{p:eZ}{s:RSp}{n:Nat}{choice:Int}(h:gE p (s.t n)=none):eW p s n choice=((⟨s,n,⟨23,0,0,0,0⟩,iZ.z,[]⟩:RA).say 0 0 0 true).fin 0:=by unfold eW;rw[h]
theorem sS{p:eZ}{s:RSp}{n:Nat}{choice:Int}{i:Ins}(h:gE p (s.t n)=some i)(h2:i.op≤19):eW p s n choice=(⟨s,n,i,iZ.z,[]⟩:RA).plain:=by unfold eW;rw[h];exact if_pos h2
theorem uT{p:eZ}{s:RSp}{n:Nat}{choice:Int}{i:Ins}(h:gE p (s.t n)=some i)(h2:¬i.op≤19):eW p s n choice=((⟨s,n,i,iZ.z,[]⟩:RA).aj {s.t n with pc:=(s.t n).pc+1 }).call choice:=by unfold eW;rw[h];exact if_neg h2
theorem yD{s:RSp}{k:Int}(h:s.ask.length=0):s.done k=(0,s):=by unfold RSp.done;exact if_pos h
def RSp.asked(s:RSp)(k:Int):RSp:={s with ask:=s.ask.eraseIdx (pick k s.ask.length) }
theorem sT{s:RSp}{k:Int}{r:pE}(h:¬s.ask.length=0)(hr:s.ask[pick k s.ask.length]?=some r)(hw:r.write=false) :
  s.done k=(r.who+1,{(s.asked k).dn r.who.toNat (s.blk.getD r.block.toNat 0) with au:=s.au++[(s.t r.who.toNat).dL (s.blk.getD r.block.toNat 0)] }):=by
 unfold RSp.done;refine(if_neg h).trans ?_;simp only[bI hr,hw];rfl
theorem qH{s:RSp}{k:Int}{r:pE}(h:¬s.ask.length=0)(hr:s.ask[pick k s.ask.length]?=some r)(hw:r.write=true) :
  s.done k=(r.who+1,{({s.asked k with blk:=s.blk.set r.block.toNat r.x }:RSp).dn r.who.toNat 0 with au:=s.au++[(s.t r.who.toNat).dL 0] }):=by
 unfold RSp.done;refine(if_neg h).trans ?_;simp only[bI hr,hw];rfl
def RSp.fg(s:RSp):RSp:={s with now:=if s.now<1099511627776 then s.now+1 else s.now }
def RSp.kD(s:RSp)(n:Nat):RSp:={({s with til:=dU s.til n 0 }:RSp).dn n 0 with au:=s.au++[(s.t n).dL 0] }
structure jK(s0:RSp)(n:Nat)(s:RSp)(out:List Int):Prop where
 hn:n≤16
 eq:rTick s (16-n) n out=rTick s0 16 0 []
 T:fT s
 tl:∀ m,0≤s.til m∧s.til m≤1099511627777
 nw:s.now=s0.now
 r:s.au.length≤s0.au.length+n
 o:out.length≤n
theorem jK.zero{s:RSp}(hT:fT s)(ht:∀ m,0≤s.til m∧s.til m≤1099511627777):jK s 0 s []:=⟨Nat.zero_le _,rfl,hT,ht,rfl,Nat.le_refl _,Nat.le_refl _⟩
theorem jK.step{s0 s:RSp}{n:Nat}{out:List Int}(h:jK s0 n s out)(hn:n<16):rTick s0 16 0 []=rTick s ((15-n)+1) n out:=by rw[← h.eq,show 16-n=(15-n)+1 from by omega]
theorem jK.yes{s0 s:RSp}{n:Nat}{out:List Int}(h:jK s0 n s out)(hn:n<16)(hc:0<s.til n∧s.til n-1≤s.now):jK s0 (n+1) (s.kD n) (out++[(n:Int)]) :=
 ⟨hn,by rw[h.step hn,rTick,show 16-(n+1)=15-n from by omega];exact(if_pos hc).symm,fT.dn (s:={s with til:=dU s.til n 0 }) h.T ⟨by decide,by decide⟩,fun m=>by
  show 0≤dU s.til n 0 m∧dU s.til n 0 m≤_
  unfold dU;split;exact⟨by decide,by decide⟩;exact h.tl m,h.nw,by show(s.au++[_]).length≤_;have:=h.r;rw[List.length_append,List.length_singleton];omega,by have:=h.o;rw[List.length_append,List.length_singleton];omega⟩
theorem jK.no{s0 s:RSp}{n:Nat}{out:List Int}(h:jK s0 n s out)(hn:n<16)(hc:¬(0<s.til n∧s.til n-1≤s.now)):jK s0 (n+1) s out :=
 ⟨hn,by rw[h.step hn,rTick,show 16-(n+1)=15-n from by omega];exact(if_neg hc).symm,h.T,h.tl,h.nw,by have:=h.r;omega,by have:=h.o;omega⟩
theorem jK.end{s0 s:RSp}{n:Nat}{out:List Int}(h:jK s0 n s out)(hn:¬n<16):rTick s0 16 0 []=(out,s):=by
 have:=h.hn
 rw[← h.eq,show 16-n=0 from by omega,rTick]
end Go.SLYtefdijgllbkmfaaGreat
namespace Go.SLYtefdijgllbkmfaaGreat
open Go Go.RowKit Go.Proofs Go.Proofs.Tryz
attribute [local irreducible] ax aQ bu cj bQ Y
theorem Fw{W:World}{A:aa}{b:Nat}{v:RV}{s:RSp}{n:Nat}(hp:fp W [A] v.p)(hn:n<16)(_hfs:v.p.fs.length≤1000000000)(hf:0≤(s.thr n).fn∧(s.thr n).fn<(v.p.fs.length:Int))(hpc:0≤(s.thr n).pc∧(s.thr n).pc≤900000)(hfl:∀ f∈v.p.fs,f.2.length≤1000000):Fn Tryz.prog W 87 [ptr b,.int .i64 (n:Int)] [bV b v s,A] Unit (fun _=>Ef (gE v.p.p (s.t n))) (fun _=>True) (fun _=>[bV b v s,A]):=by
 refine Fn.intro (N:=40) func87 rfl ntmps87 rfl fun F=>?_
 haveI hI1:∀ (H:List aa) [bX H A],aI W H v.p.fv cn 1 v.p.fs:=fun H h=>⟨hp.fs.at h.has⟩
 haveI hI2:∀ (H:List aa) [bX H A],aI W H v.p.sv aL 1 v.p.aU:=fun H h=>⟨hp.aU.at h.has⟩
 haveI hI3:∀ (H:List aa) [bX H A],aI W H v.p.pv aL 1 v.p.aG:=fun H h=>⟨hp.aG.at h.has⟩
 show ax _ _ _ _ _ _ [bV b v s,A,F]
 refine .fr (A:=bV b v s) .auto bx ?_
 obtain⟨x,hx⟩:=ay (show(s.thr n).fn.toNat<v.p.fs.length by omega)
 have hi:=hp.ins x (List.mem_of_getElem? hx)
 haveI hI4:∀ (H:List aa) [bX H A],aI W H x.1 dI 5 x.2:=fun H h=>⟨hi.at h.has⟩
 have hxl:=hfl x (List.mem_of_getElem? hx)
 have hnx:gE v.p.p (s.t n)=x.2[(s.thr n).pc.toNat]?:=Fv hx
 refine J 2 ?_
 refine .aw rfl (af.alloc rfl zeroValue131 rfl) ?_
 rintro _ _ ⟨b4,rfl,rfl⟩
 refine J 9 ?_
 refine .p (.aD _ underlying54 sizeOf53 rfl rfl rfl (by first | omega | exact hn | decide)) ?_
 refine .p (.la rfl (Cells.t (by first | omega | exact hn))) ?_
 refine .aw rfl (af.alloc rfl zeroValue53 rfl) ?_
 rintro _ _ ⟨b6,rfl,rfl⟩
 refine J 5 ?_
 refine .draw [] [1,1,1,1,1,1,1,1,1,1,1,1,1] rfl (by kernel_rfl) ?_
 refine J 9 ?_
 refine .p (.ig (s.thr n).fn.toNat underlying22 sizeOf128 rfl rfl Rd.s (by omega) (by omega)) ?_
 refine .p (.lr rfl hx) ?_
 refine JD 4 (fun h25=>?_) fun h25=>?_
 ·refine J 2 ?_
  refine .p (.qO ([(.int .i64 0),(.int .i64 0),(.int .i64 0),(.int .i64 0),(.int .u64 0)]) (by kernel_rfl)) ?_
  refine J 6 ?_
  refine .gT rfl rfl isAgg131 (by exact sizeOf131) Cells.a rfl fun w s=>⟨(),?_,trivial,ar .auto s⟩
  rw[hnx,List.getElem?_eq_none (by omega)];rfl
 ·refine J 3 ?_
  refine .draw [] [1,1,1,1,1,1,1,1,1,1,1,1,1,3,1] rfl (by kernel_rfl) ?_
  refine J 7 ?_
  refine .p (.ig (s.thr n).fn.toNat underlying22 sizeOf128 rfl rfl Rd.s (by omega) (by omega)) ?_
  refine .p (.lr rfl hx) ?_
  refine J 1 ?_
  obtain⟨i,hi2⟩:=ay (show(s.thr n).pc.toNat<x.2.length by omega)
  refine J 1 ?_
  refine .p (.ig (s.thr n).pc.toNat underlying128 sizeOf131 rfl rfl Rd.s (by omega) (by omega)) ?_
  refine .p (.la rfl (Cells.rd Rd.s hi2)) ?_
  refine .d3 rfl (af.tP (by exact sizeOf131) rfl rfl rfl (by rfl)) ?_
  rintro _ _ ⟨rfl,rfl⟩
  refine J 4 ?_
  refine .gT rfl rfl isAgg131 (by exact sizeOf131) Cells.a rfl fun w s=>⟨(),?_,trivial,ar .auto s⟩
  rw[hnx,hi2];rfl
theorem Fx{W:World}{b:Nat}{v:RV}{s:RSp}{k:Int}(hT:fT s)(ha:s.ask.length≤1000000)(hq:∀ r∈s.ask,(0≤r.who∧r.who<16)∧0≤r.block∧r.block<(s.blk.length:Int))(hr:s.au.length≤900000000):Fn Tryz.prog W 43 [ptr b,.int .i64 k] [bV b v s] Unit (fun _=>.int .i64 (s.done k).1) (fun _=>True) (fun _=>[bV b v (s.done k).2]):=by
 refine Fn.intro (N:=83) func43 rfl ntmps43 rfl fun F=>?_
 show ax _ _ _ _ _ _ [bV b v s,F]
 refine .fr (A:=bV b v s) .auto bx ?_
 refine .o1 (C:=iL ec 4 b 319 s.ask) .auto rfl ?_
 rintro va -
 refine .o1 (C:=iL bF 1 b 318 s.blk) .auto rfl ?_
 rintro vb -
 refine .o1 (C:=iL dr 6 b 337 s.au) .auto rfl ?_
 rintro vr -
 refine JD 16 (fun h13=>?_) fun h13=>?_
 ·refine J 7 ?_
  rw[yD (by omega)]
  exact JR 0 ()
 ·refine J 4 ?_
  have hpk:(pick k s.ask.length)<s.ask.length:=fc (by omega)
  obtain⟨r,hrk⟩:=ay hpk
  obtain⟨⟨hw0,hw16⟩,hb0,hb1⟩:=hq r (List.mem_of_getElem? hrk)
  have hbk:s.blk[r.block.toNat]?=some (s.blk.getD r.block.toNat 0):=getD_some (by omega)
  have hr0:Rd W [sl ec 4 va s.ask] ec 4 va s.ask:=Rd.sl .here
  have hr1:=hr0.cut (lo:=0) (hi:=(pick k s.ask.length)) (Nat.zero_le _) (by omega)
  have hr2:=hr0.cut (lo:=(pick k s.ask.length)+1) (hi:=s.ask.length) (by omega) (Nat.le_refl _)
  haveI hI1:∀ (H:List aa) [bX H (sl ec 4 va s.ask)],aI W H (cut 4 0 (pick k s.ask.length) va) ec 4 ((s.ask.take (pick k s.ask.length)).drop 0):=fun H h=>⟨hr1.at h.has⟩
  haveI hI2:∀ (H:List aa) [bX H (sl ec 4 va s.ask)],aI W H (cut 4 ((pick k s.ask.length)+1) s.ask.length va) ec 4 ((s.ask.take s.ask.length).drop ((pick k s.ask.length)+1)):=fun H h=>⟨hr2.at h.has⟩
  refine J 6 ?_
  refine .c call94 rfl (o0 (c:=k) (n:=s.ask.length) (by omega) (by omega)) fun _ _=>?_
  refine J 10 ?_
  refine .p (.ig (pick k s.ask.length) underlying60 sizeOf175 rfl rfl Rd.s rfl hpk) ?_
  refine .p (.la rfl (Cells.rd Rd.s hrk)) ?_
  refine .aw rfl (af.alloc rfl zeroValue175 rfl) ?_
  rintro _ _ ⟨b6,rfl,rfl⟩
  refine J 4 ?_
  refine .draw [arr b 319 [va],sl ec 4 va s.ask] [0,2,0,0,0,0,0,0,2,0,0,0,0,0,0,0,2,1,1,3] rfl (by kernel_rfl) ?_
  refine J 1 ?_
  refine .d2 rfl Kept.auto (af.gQ 175 rfl rfl (by kernel_rfl)) (by rintro _ _ ⟨b29,rfl,rfl⟩;exact Kept.auto) ?_
  rintro _ _ ⟨b29,rfl,rfl⟩
  refine .to (A:=sl ec 4 (.slice (some ⟨b29,0,none⟩) 0 0) ([]:List pE)) (Bs:=[]) .nil (fun h e=>.inl ⟨⟨_,rfl⟩,rfl,e⟩) ?_
  refine J 5 ?_
  refine .q (.sliceTo (pick k s.ask.length) underlying60 sizeOf175 rfl rfl Rd.s rfl (by omega)) ?_
  refine .d2 rfl Kept.auto (af.append rfl underlying60 underlying60 typeInfo175 rfl rfl rfl (by decide) rfl rfl .auto Rd.s (by simp only[List.length_nil,List.length_drop,List.length_take];omega) (rQ _)) (by rintro _ _ ⟨v36,rfl,rfl⟩;exact Kept.auto) ?_
  rintro _ _ ⟨v36,rfl,rfl⟩
  refine J 6 ?_
  refine .q (.sliceFrom ((pick k s.ask.length)+1) underlying60 sizeOf175 rfl rfl Rd.s rfl (by omega)) ?_
  refine .d2 rfl Kept.auto (af.append rfl underlying60 underlying60 typeInfo175 rfl rfl rfl (by decide) rfl rfl .auto Rd.s (by simp only[List.length_nil,List.length_append,List.length_drop,List.length_take];omega) (rQ _)) (by rintro _ _ ⟨v44,rfl,rfl⟩;exact Kept.auto) ?_
  rintro _ _ ⟨v44,rfl,rfl⟩
  refine J 2 ?_
  refine .d3 rfl (af.nf sizeOf60 rfl rfl rfl) ?_
  rintro _ _ ⟨rfl,rfl⟩
  refine J 3 ?_
  refine .draw [] [1,1,1,1,1,1,1,1,1] rfl (by kernel_rfl) ?_
  refine J 6 ?_
  refine .p (.ix r.block.toNat rfl rfl (by omega) (by omega)) ?_
  refine .p (.lr rfl hbk) ?_
  refine JD 10 (fun h56=>?_) fun h56=>?_
  ·refine J 1 ?_
   rw[mK]
   refine .draw [] [1,1,1,1,1,1,1,1,1,3] rfl (by kernel_rfl) ?_
   refine J 8 ?_
   refine .p (.ix r.block.toNat rfl rfl (by omega) (by omega)) ?_
   refine .d3 rfl (af.gL (x':=r.x) rfl rfl sizeOf38 rfl hbk (by decide) rfl .auto) ?_
   rintro _ _ ⟨rfl,rfl⟩
   refine J 7 ?_
   refine .draw [arr b 337 [vr],arr b6 0 (ec r)] [0,0,0,0,0,1,1,1,1,2,2,2,1,1,3] rfl (by kernel_rfl) ?_
   refine J 7 ?_
   refine .p (.dJ (Y.load isAgg3 rfl (Cell.a (cs:=ec r) rfl)) (show r.who=((r.who.toNat:Nat):Int) by omega)) ?_
   refine J 1 ?_
   refine .c2 call95 rfl (pd (f:=s.thr) (n:=r.who.toNat) (y:=0) (by omega) (hT _).i) fun _ _=>?_
   refine .d2 rfl Kept.auto (af.gQ 101 rfl rfl (by kernel_rfl)) (by rintro _ _ ⟨b76,rfl,rfl⟩;exact Kept.auto) ?_
   rintro _ _ ⟨b76,rfl,rfl⟩
   refine .d2 rfl Kept.auto (af.fi (enc:=dr) (k:=6) ((s.thr r.who.toNat).dL 0) rfl underlying49 underlying49 typeInfo101 rfl rfl rfl (by decide) rfl rfl rfl .auto rfl .auto (by omega) rfl) (by rintro _ _ ⟨v77,rfl,rfl⟩;exact Kept.auto) ?_
   rintro _ _ ⟨v77,rfl,rfl⟩
   refine J 2 ?_
   refine .d3 rfl (af.nf sizeOf49 rfl rfl rfl) ?_
   rintro _ _ ⟨rfl,rfl⟩
   refine J 6 ?_
   refine .p (.add rfl rfl (by omega)) ?_
   refine J 4 ?_
   rw[qH (by omega) hrk h56]
   exact JR 0 ()
  ·refine J 3 ?_
   rw[mK]
   refine .draw [arr b 337 [vr],arr b6 0 (ec r)] [0,0,0,0,0,1,1,1,1,2,2,2,1,1,3] rfl (by kernel_rfl) ?_
   refine J 7 ?_
   refine .p (.dJ (Y.load isAgg3 rfl (Cell.a (cs:=ec r) rfl)) (show r.who=((r.who.toNat:Nat):Int) by omega)) ?_
   refine J 1 ?_
   refine .c2 call95 rfl (pd (f:=s.thr) (n:=r.who.toNat) (y:=(s.blk.getD r.block.toNat 0)) (by omega) (hT _).i) fun _ _=>?_
   refine .d2 rfl Kept.auto (af.gQ 101 rfl rfl (by kernel_rfl)) (by rintro _ _ ⟨b76,rfl,rfl⟩;exact Kept.auto) ?_
   rintro _ _ ⟨b76,rfl,rfl⟩
   refine .d2 rfl Kept.auto (af.fi (enc:=dr) (k:=6) ((s.thr r.who.toNat).dL (s.blk.getD r.block.toNat 0)) rfl underlying49 underlying49 typeInfo101 rfl rfl rfl (by decide) rfl rfl rfl .auto rfl .auto (by omega) rfl) (by rintro _ _ ⟨v77,rfl,rfl⟩;exact Kept.auto) ?_
   rintro _ _ ⟨v77,rfl,rfl⟩
   refine J 2 ?_
   refine .d3 rfl (af.nf sizeOf49 rfl rfl rfl) ?_
   rintro _ _ ⟨rfl,rfl⟩
   refine J 6 ?_
   refine .p (.add rfl rfl (by omega)) ?_
   refine J 4 ?_
   rw[sT (by omega) hrk h56]
   exact JR 0 ()
theorem Fy{W:World}{b:Nat}{v:RV}{s:RSp}(hT:fT s)(ht:∀ m,0≤s.til m∧s.til m≤1099511627777)(hr:s.au.length≤800000000)(hw:0≤s.now∧s.now≤1099511627776):Fn Tryz.prog W 45 [ptr b] [bV b v s] Value (fun u=>u) (fun _=>True) (fun u=>[sl aL 1 u s.tick.1,bV b v s.tick.2]):=by
 refine Fn.intro (N:=65) func45 rfl ntmps45 rfl fun F=>?_
 show ax _ _ _ _ _ _ [bV b v s,F]
 refine .fr (A:=bV b v s) .auto bx ?_
 have hR0:=jK.zero (s:=s.fg) hT ht
 refine J 5 ?_
 refine .nJ (X:=Unit) [5,6,7,8,9,10,11,12,13,14,15,16] (fun _=>True) (fun _=>[]) (fun _=>[bV b v s.fg,F]) ?_ ?_
 ·refine JD 9 (fun h9=>?_) fun h9=>?_
  ·refine J 5 ?_
   refine .p (.add rfl rfl (by omega)) ?_
   refine J 2 ?_
   refine .aw rfl (af.Ik sizeOf3 rfl rfl rfl rfl) ?_
   rintro _ _ ⟨rfl,rfl⟩
   refine J 1 ?_
   refine .eY () .auto ?_ ?_ ?_
   ·trivial
   ·exact trivial
   ·rw[show s.fg = {s with now:=s.now+1 } from by unfold RSp.fg;rw[if_pos h9]];exact fun w s=>aK.kept .auto w s
  ·refine J 1 ?_
   refine .eY () .auto ?_ ?_ ?_
   ·trivial
   ·exact trivial
   ·rw[show s.fg=s from by unfold RSp.fg;rw[if_neg h9]];exact fun w s=>aK.kept .auto w s
 ·rintro⟨⟩ -
  refine J 2 ?_
  refine .aw rfl (af.gQ 3 rfl rfl (by kernel_rfl)) ?_
  rintro _ _ ⟨b17,rfl,rfl⟩
  refine .to (A:=sl aL 1 (.slice (some ⟨b17,0,none⟩) 0 0) ([]:List Int)) (Bs:=[]) .nil (fun h e=>.inl ⟨⟨_,rfl⟩,rfl,e⟩) ?_
  refine J 10 ?_
  refine .cM (X:=Nat×RSp×Value×List Int) [3,4,18,19,20,21,22,23,24,25,26,27,28,29,30,31,32,33,34,35,36,37,38,39,40,41,42,43,44,45,46,47,48,49,50,51,52,53,54,55,56,57,58,59,60,61,62,63] (fun z=>16-z.1) (fun z=>jK s.fg z.1 z.2.1 z.2.2.2) (fun z=>[(4,some (.int .i64 (z.1:Int))),(3,some z.2.2.1)]) (fun z=>[sl aL 1 z.2.2.1 z.2.2.2,bV b v z.2.1,F]) (0,s.fg,.slice (some ⟨b17,0,none⟩) 0 0,[]) ?_ ?_ ?_ ?_
  ·exact hR0
  ·exact⟨rfl,rfl,trivial⟩
  ·exact fun w s=>aK.kept .auto w s
  rintro⟨k,r,u,out⟩ hR
  simp only at hR
  have hro:=hR.o
  have hrr:r.au.length≤s.au.length+k:=hR.r
  refine .fr (A:=bV b v r) .auto bx ?_
  refine .o1 (C:=iL dr 6 b 337 (r).au) .auto rfl ?_
  rintro vr -
  refine JD 7 (fun h19=>?_) fun h19=>?_
  ·refine J 5 ?_
   refine .draw [] [1,1,1,1,1,1,1,1,1,1,1,1,1,1,1,1,1,1,1,1,1] rfl (by kernel_rfl) ?_
   refine J 4 ?_
   refine .p (.aD _ underlying61 sizeOf3 rfl rfl rfl (by first | omega | exact hn | decide)) ?_
   refine .p (.ld rfl (Cell.tl (by omega))) ?_
   refine J 2 ?_
   apply bu.fZ 13 42 29 [29,30,31,32,33,34,35,36,37,38,39,40,41,42] rfl
   ·intro h29
    refine J 4 ?_
    refine .g (.aD _ underlying61 sizeOf3 rfl rfl rfl (by first | omega | exact hn | decide)) ?_
    refine .g (.ld rfl (Cell.tl (by omega))) ?_
    refine .g (.sub rfl rfl (by have:=hR.tl k;dsimp only;omega)) ?_
    exact JS 7
   ·intro h29
    exact JS 14
   refine JD 2 (fun h42=>?_) fun h42=>?_
   ·simp only[Bool.and_eq_true,decide_eq_true_eq] at h42
    refine J 6 ?_
    refine .p (.aD _ underlying61 sizeOf3 rfl rfl rfl (by first | omega | exact hn | decide)) ?_
    refine .aw rfl (af.JI sizeOf3 rfl rfl (by omega)) ?_
    rintro _ _ ⟨rfl,rfl⟩
    refine J 3 ?_
    refine .draw [arr b 337 [vr]] [0,0,0,0,0,1,1,2,2,2,1,1,3] rfl (by kernel_rfl) ?_
    refine J 7 ?_
    refine .c2 call95 rfl (pd (f:=r.thr) (n:=k) (y:=0) (by omega) (hR.T _).i) fun _ _=>?_
    refine .d2 rfl Kept.auto (af.gQ 101 rfl rfl (by kernel_rfl)) (by rintro _ _ ⟨b56,rfl,rfl⟩;exact Kept.auto) ?_
    rintro _ _ ⟨b56,rfl,rfl⟩
    refine .d2 rfl Kept.auto (af.fi (enc:=dr) (k:=6) ((r.thr k).dL 0) rfl underlying49 underlying49 typeInfo101 rfl rfl rfl (by decide) rfl rfl rfl .auto rfl .auto (by omega) rfl) (by rintro _ _ ⟨v57,rfl,rfl⟩;exact Kept.auto) ?_
    rintro _ _ ⟨v57,rfl,rfl⟩
    refine J 2 ?_
    refine .d3 rfl (af.nf sizeOf49 rfl rfl rfl) ?_
    rintro _ _ ⟨rfl,rfl⟩
    refine J 5 ?_
    refine .aw rfl (af.gQ 3 rfl rfl (by kernel_rfl)) ?_
    rintro _ _ ⟨b62,rfl,rfl⟩
    refine .aw rfl (af.fi (enc:=aL) (k:=1) (k:Int) rfl underlying23 underlying23 typeInfo3 rfl rfl rfl (by decide) rfl rfl rfl .auto rfl .auto (by dsimp only;omega) rfl) ?_
    rintro _ _ ⟨v63,rfl,rfl⟩
    refine J 9 ?_
    refine .bf (k+1,r.kD k,v63,out++[(k:Int)]) .auto rfl ?_ ?_ ?_ ?_
    ·show 16-(k+1)<16-k;omega
    ·exact hR.yes (by omega) ⟨h42.1,h42.2⟩
    ·exact⟨rfl,rfl,trivial⟩
    ·exact fun w s=>aK.kept .auto w s
   ·simp only[Bool.and_eq_false_iff,decide_eq_false_iff_not] at h42
    refine J 8 ?_
    refine .bf (k+1,r,u,out) .auto rfl ?_ ?_ ?_ ?_
    ·show 16-(k+1)<16-k;omega
    ·exact hR.no (by omega) (fun h=>by rcases h42 with e | e;exact e h.1;exact e h.2)
    ·exact⟨rfl,rfl,trivial⟩
    ·exact fun w s=>aK.kept .auto w s
  ·refine J 12 ?_
   rw[show s.tick=(out,r) from hR.end (by omega)]
   exact JR 0 u
end Go.SLYtefdijgllbkmfaaGreat
namespace Go.SLYtefdijgllbkmfaaGreat
open Go Go.RowKit
variable{p0:eZ}
def l8(f:Nat→Int):List Int:=[f 0,f 1,f 2,f 3,f 4,f 5,f 6,f 7]
theorem JP{f:Nat→Int}{j:Nat}{v:Int}(hj:j<8):(l8 f).set j v=l8 (dU f j v):=by
 rcases j with _ | _ | _ | _ | _ | _ | _ | _ | j
 all_goals first | rfl | omega
theorem JQ{f:Nat→Int}{j:Nat}(hj:j<8):(l8 f).getD j 0=f j:=by
 rcases j with _ | _ | _ | _ | _ | _ | _ | _ | j
 all_goals first | rfl | omega
structure jw(L:Nat)(t:bo)(u:RT):Prop where
 us:u.used=true
 h:u.handle=t.handle
 w:u.why=t.why
 f:u.fn=t.fn
 p:u.pc=t.pc
 r:t.aq=l8 u.aq
 v:u.value=t.value
 d:u.pA=t.bq
 j:u.av=t.av+1
 o:u.op=t.op
 i:u.into=t.into+1
 fl:0≤t.fn∧t.fn<(L:Int)
section
variable{L:Nat}{t:bo}{u:RT}
theorem jw.eX(h:jw L t u){a:Int}(ha:0≤a∧a<8):u.eX a=t.eX a:=by
 unfold RT.eX bo.eX;rw[h.r,JQ (by omega)]
theorem jw.put(h:jw L t u){a v:Int}(ha:0≤a∧a<8):jw L (t.put a v) (u.put a v) :=
 ⟨h.us,h.h,h.w,h.f,h.p,(by show t.aq.set a.toNat v=l8 (dU u.aq a.toNat v);rw[h.r,JP (by omega)]),h.v,h.d,h.j,h.o,h.i,h.fl⟩
theorem jw.cV(h:jw L t u)(hi : -1≤t.into∧t.into<8){y:Int}:jw L (t.cV y) (u.cV y):=by
 have hi2:=h.i
 unfold bo.cV RT.cV
 by_cases e:t.into = -1
 ·rw[if_pos e,if_pos (by omega)]
  have h1:=h.put (a:=7) (v:=0) ⟨by decide,by decide⟩
  exact⟨h1.us,h1.h,rfl,h1.f,h1.p,h1.r,h1.v,h1.d,h1.j,h1.o,rfl,h1.fl⟩
 ·rw[if_neg e,if_neg (by omega),show u.into-1=t.into from by omega]
  have h1:=(h.put (a:=t.into) (v:=y) ⟨by omega,by omega⟩).put (a:=7) (v:=0) ⟨by decide,by decide⟩
  exact⟨h1.us,h1.h,rfl,h1.f,h1.p,h1.r,h1.v,h1.d,h1.j,h1.o,rfl,h1.fl⟩
theorem jw.dL(h:jw L t u){y:Int}:u.dL y=t.dL y:=by
 have hi:=h.i
 unfold RT.dL bo.dL
 rw[h.h,h.o]
 by_cases e:t.into = -1
 ·rw[if_pos e,if_pos (by omega)]
 ·rw[if_neg e,if_neg (by omega)]
end
def iM(m:dB):gp:=⟨if m.held=true then m.owner+1 else 0,m.wait.map (·.who)⟩
def JT:Option Int→Int
 | none=>0
 | some m=>m+1
structure fh(p0:eZ)(s:Spc)(r:RSp):Prop where
 pg:s.dK=p0
 tk:∀ n:Nat,n<16→r.taken n=(s.table.getD n (false,0)).2
 no:∀ n:Nat,s.thr[n]?=some none→(r.thr n).used=false
 th:∀ (n:Nat) (t:bo),s.thr[n]?=some (some t)→jw s.dK.funcs.length t (r.thr n)
 T:fT r
 me:r.mem=s.mem
 mx:r.aF=s.ag.aF.map iM
 cd:r.bn=s.ag.bn
 sm:r.cf=s.ag.cf.map (·.count)
 sw:r.sw=s.ag.cf.map fun x=>x.wait.map (·.who)
 pp:r.jv=s.bA
 bk:r.blk=s.aO.blocks
 ak:r.ask=s.aO.wait
 nw:r.now=s.aA.now
 tl:∀ n:Nat,r.til n=JT (cF s.aA.dY n)
 tp:∀ (n:Nat) (m:Int),cF s.aA.dY n=some m→0≤m∧m≤1099511627776
 rc:r.au=s.au
 tr:∀ u∈s.bA,(u.words.length:Int)≤u.room
 ow:∀ x∈s.ag.aF,x.held=true→0≤x.owner
 mw:∀ x∈s.ag.aF, ∀ y∈x.wait, ∃ t,s.at y.who=some t∧t.why=1
def nG(s:Spc)(w:Int):Prop:=∀ x∈s.ag.aF, ∀ y∈x.wait,y.who≠w
section
variable{s:Spc}{r:RSp}{n:Nat}{t t':bo}{u':RT}
theorem fh.aj(h:fh p0 s r)(ht:s.thr[n]?=some (some t))(hs:jw s.dK.funcs.length t' u')(hR:w8 u')(hw:t'.why=t.why∨nG s n∨t'.why=1):fh p0 (s.aj n t') (r.aj n u'):=by
 have hn:=(List.getElem?_eq_some_iff.1 ht).1
 refine⟨h.pg,h.tk,fun m e=>?_,fun m t1 e=>?_,h.T.dU rfl hR,h.me,h.mx,h.cd,h.sm,h.sw,h.pp,h.bk,h.ak,h.nw,h.tl,h.tp,h.rc,h.tr,h.ow,fun x hx y hy=>?_⟩
 ·have e:(s.thr.set n (some t'))[m]?=some none:=e
  by_cases hm:n=m
  ·subst hm;rw[List.getElem?_set_self hn] at e;cases e
  ·rw[List.getElem?_set_ne hm] at e
   show(dU r.thr n u' m).used=false
   rw[jk (fun h=>hm h.symm)];exact h.no m e
 ·have e:(s.thr.set n (some t'))[m]?=some (some t1):=e
  show jw s.dK.funcs.length t1 (dU r.thr n u' m)
  by_cases hm:n=m
  ·subst hm;rw[List.getElem?_set_self hn] at e;cases e;rw[dF];exact hs
  ·rw[List.getElem?_set_ne hm] at e;rw[jk (fun h=>hm h.symm)];exact h.th m t1 e
 ·obtain⟨t1,a1,a2⟩:=h.mw x hx y hy
  rw[show(s.aj n t').at y.who=_ from jQ hn y.who]
  by_cases e:y.who=(n:Int)
  ·rw[if_pos e]
   refine⟨t',rfl,?_⟩
   rw[e,ly ht] at a1;cases a1
   rcases hw with hw | hw | hw
   ·rw[hw];exact a2
   ·exact absurd e (hw x hx y hy)
   ·exact hw
  ·rw[if_neg e];exact⟨t1,a1,a2⟩
theorem CQ{l:List (Bool×Int)}{h:Int}{m:Nat}:((slotFreed l h).getD m (false,0)).2=(l.getD m (false,0)).2:=by
 unfold slotFreed
 cases bm l h with
 | none=>rfl
 | some n =>
  simp only
  by_cases e:n=m
  ·subst e
   by_cases hl:n<l.length
   ·rw[List.getD_eq_getElem?_getD (l:=l.set _ _),List.getElem?_set_self hl];rfl
   ·rw[List.set_eq_of_length_le (by omega)]
  ·rw[List.getD_eq_getElem?_getD,List.getElem?_set_ne e, ← List.getD_eq_getElem?_getD]
theorem fh.free(h:fh p0 s r)(ht:s.thr[n]?=some (some t))(hm:nG s n):fh p0 (s.free n) (r.aj n {r.t n with used:=false }):=by
 have hn:=(List.getElem?_eq_some_iff.1 ht).1
 have hR:=h.T n
 refine⟨h.pg,fun m hm=>?_,fun m e=>?_,fun m t1 e=>?_,h.T.dU rfl ⟨hR.r,hR.i,hR.j,hR.p,hR.v⟩,h.me,h.mx,h.cd,h.sm,h.sw,h.pp,h.bk,h.ak,h.nw,h.tl,h.tp,h.rc,h.tr,h.ow,fun x hx y hy=>?_⟩
 ·show r.taken m=((slotFreed s.table (s.t n).handle).getD m (false,0)).2
  rw[CQ];exact h.tk m hm
 ·have e:(s.thr.set n none)[m]?=some none:=e
  show(dU r.thr n {r.t n with used:=false } m).used=false
  by_cases hm:n=m
  ·subst hm;rw[dF]
  ·rw[List.getElem?_set_ne hm] at e;rw[jk (fun h=>hm h.symm)];exact h.no m e
 ·have e:(s.thr.set n none)[m]?=some (some t1):=e
  show jw s.dK.funcs.length t1 (dU r.thr n {r.t n with used:=false } m)
  by_cases hm:n=m
  ·subst hm;rw[List.getElem?_set_self hn] at e;cases e
  ·rw[List.getElem?_set_ne hm] at e;rw[jk (fun h=>hm h.symm)];exact h.th m t1 e
 ·obtain⟨t1,a1,a2⟩:=h.mw x hx y hy
  have e:=hm x hx y hy
  refine⟨t1,?_,a2⟩
  rw[show(s.free n).at y.who=({s with thr:=s.thr.set n none }:Spc).at y.who from rfl,jQ hn,if_neg e];exact a1
end
/-! an instruction on its way -/
structure aW(p0:eZ)(d:Dng)(a:RA):Prop where
 s:fh p0 d.s a.s
 n:a.n=d.n
 i:a.i=d.i
 e:a.e=d.out
 l:a.late=d.ends
section
variable{d:Dng}{a:RA}{t:bo}{x y e:Int}
theorem aW.th(h:aW p0 d a)(ht:d.s.thr[d.n]?=some (some t)):jw d.s.dK.funcs.length t a.t:=by
 have:=h.s.th d.n t ht;rw[← h.n] at this;exact this
theorem aW.say(h:aW p0 d a)(ht:d.s.thr[d.n]?=some (some t)){fin:Bool}:aW p0 (d.tell x y e fin) (a.say x y e fin):=by
 have hT:=h.th ht
 refine⟨⟨h.s.pg,h.s.tk,h.s.no,h.s.th,h.s.T,h.s.me,h.s.mx,h.s.cd,h.s.sm,h.s.sw,h.s.pp,h.s.bk,h.s.ak,h.s.nw,h.s.tl,h.s.tp,?_,h.s.tr,h.s.ow,h.s.mw⟩,h.n,h.i,h.e,h.l⟩
 show a.s.au++[⟨a.t.handle,a.i.op,x,y,e,fin⟩]=d.s.au++[⟨d.t.handle,d.i.op,x,y,e,fin⟩]
 rw[h.s.rc,h.i,hT.h,ck ht]
theorem aW.aj(h:aW p0 d a)(ht:d.s.thr[d.n]?=some (some t)){t':bo}{u':RT}(hs:jw d.s.dK.funcs.length t' u')(hR:w8 u')(hw:t'.why=t.why∨nG d.s d.n∨t'.why=1):aW p0 (d.aj t') (a.aj u'):=by
 refine⟨?_,h.n,h.i,h.e,h.l⟩
 show fh p0 (d.s.aj d.n t') (a.s.aj a.n u')
 rw[h.n];exact h.s.aj ht hs hR hw
theorem aW.put(h:aW p0 d a)(ht:d.s.thr[d.n]?=some (some t)){i v:Int}(hi:0≤i∧i<8)(hv:fq v):aW p0 (d.aj (t.put i v)) (a.aj (a.t.put i v)) :=
 h.aj ht ((h.th ht).put hi) ((h.s.T a.n).put hv) (.inl rfl)
theorem aW.pass(h:aW p0 d a)(ht:d.s.thr[d.n]?=some (some t))(he:0≤e∧e≤11):aW p0 (d.pass x y e) (a.done x y e):=by
 unfold Dng.pass RA.done
 rw[ck ht]
 have h1:=h.say ht (x:=x) (y:=y) (e:=e) (fin:=true)
 exact h1.put (t:=t) ht ⟨by decide,by decide⟩ ⟨he.1,by omega⟩
theorem aW.block(h:aW p0 d a)(ht:d.s.thr[d.n]?=some (some t)){why into into':Int}(hi : -1≤into∧into<8)(hi':into'=into+1)(hm:nG d.s d.n∨why=1):aW p0 (d.block why into x y) (a.stop why into' x y):=by
 subst hi'
 unfold Dng.block RA.stop
 rw[ck ht]
 have h1:=h.say ht (x:=x) (y:=y) (e:=0) (fin:=false)
 have hT:=h.th ht
 have hR:=h.s.T a.n
 have h2:=h1.aj (t:=t) (t':={t with why:=why,op:=d.i.op,into:=into }) (u':={a.t with why:=why,op:=a.i.op,into:=into+1 }) ht ⟨hT.us,hT.h,rfl,hT.f,hT.p,hT.r,hT.v,hT.d,hT.j,by show a.i.op=d.i.op;rw[h.i],rfl,hT.fl⟩ ⟨hR.r,⟨by show 0≤into+1;omega,by show into+1≤8;omega⟩,hR.j,hR.p,hR.v⟩ (.inr hm)
 exact⟨h2.s,h2.n,h2.i,by show({a.e with bE:=true }:iZ) = {d.out with bE:=true };rw[h.e],h2.l⟩
theorem aW.dZ(h:aW p0 d a){n:Nat}{u:bo}(hu:d.s.thr[n]?=some (some u))(hi : -1≤u.into∧u.into<8)(hm:nG d.s n)(hy:fq y):aW p0 (d.dZ n y) (a.free n y):=by
 have hT:=h.s.th n u hu
 have hs:=h.s.aj hu (hT.cV hi (y:=y)) ((h.s.T n).cV hy) (.inr (.inl hm))
 refine⟨?_,h.n,h.i,?_,?_⟩
 ·show fh p0 (d.s.aj n ((d.s.t n).cV y)) (a.s.aj n ((a.s.t n).cV y))
  rw[cW hu];exact hs
 ·show({a.e with aM:=a.e.aM++[(n:Int)] }:iZ) = {d.out with aM:=d.out.aM++[(n:Int)] }
  rw[h.e]
 ·show a.late++[(a.s.t n).dL y]=d.ends++[(d.s.t n).dL y]
  rw[h.l,cW hu,show(a.s.t n).dL y=u.dL y from hT.dL]
theorem aW.off(h:aW p0 d a){n:Nat}{u:bo}(hu:d.s.thr[n]?=some (some u))(hm:nG d.s n):aW p0 (d.free n) ({a with s:=a.s.aj n {a.s.t n with used:=false } }:RA):=⟨h.s.free hu hm,h.n,h.i,h.e,h.l⟩
theorem aW.sN(h:aW p0 d a)(ht:d.s.thr[d.n]?=some (some t))(hm:nG d.s d.n):aW p0 (d.free d.n) a.sN:=by
 obtain⟨az,an,ai,ae,al⟩:=a
 obtain rfl:an=d.n:=h.n
 exact h.off ht hm
theorem aW.fin(h:aW p0 d a)(ht:d.s.thr[d.n]?=some (some t))(hm:nG d.s d.n)
  (hj:¬t.av = -1→nG d.s t.av∧0≤t.av∧t.av.toNat≠d.n∧ ∃ u,d.s.thr[t.av.toNat]?=some (some u)∧(-1≤u.into∧u.into<8)) {v:Int} (hv:fq v):aW p0 (d.fin v) (a.fin v):=by
 have hT:=h.th ht
 have hR:=h.s.T a.n
 have h1:aW p0 d.ended a.ending:=⟨h.s,h.n,h.i,by show({a.e with ended:=true }:iZ) = {d.out with ended:=true };rw[h.e],h.l⟩
 have hTd:=hT.d
 have hTj:=hT.j
 unfold RA.fin
 cases hd:t.bq with
 | true =>
  rw[vU ht hd,if_neg (by rw[hTd,hd];simp),if_neg (by rw[hTd,hd];simp)]
  exact h1.sN ht hm
 | false =>
  by_cases e:t.av = -1
  ·rw[sf ht hd e,if_pos ⟨by rw[hTd,hd],by rw[hTj,e];rfl⟩]
   exact h1.aj (t:=t) (t':={t with why:=9,value:=v }) (u':={a.t with why:=9,value:=v }) ht ⟨hT.us,hT.h,rfl,hT.f,hT.p,hT.r,rfl,hT.d,hT.j,hT.o,hT.i,hT.fl⟩ ⟨hR.r,hR.i,hR.j,hR.p,hv⟩ (.inr (.inl hm))
  ·rw[si ht hd e,if_neg (fun h=>e (by have:=h.2;omega)),if_pos (by rw[hTd,hd])]
   obtain⟨j1,j2,j3,u,j4,j5⟩:=hj e
   rw[show(a.t.av-1).toNat=t.av.toNat from by omega]
   have h2:=h1.dZ (n:=t.av.toNat) (u:=u) j4 j5 (by rw[show((t.av.toNat:Nat):Int)=t.av from by omega];exact j1) hv
   exact h2.sN (t:=t) (cr ht j3) hm
/-! who is asked for -/
theorem qd{thr:Nat→RT}{self:Nat}{h:Int}:∀ {f n:Nat},(∀ m,n≤m→m<n+f→(thr m).used=false∨¬(thr m).handle=h∨m=self∨(thr m).pA=true)→cA thr self h f n=(0,3)
 | 0,n,_=>rfl
 | f+1,n,hh=>by
  rw[cA];try simp only
  rw[if_pos (hh n (Nat.le_refl _) (by omega))]
  exact qd (fun m a b=>hh m (by omega) (by omega))
theorem uU{thr:Nat→RT}{self:Nat}{h:Int}{m:Nat}(hm:¬((thr m).used=false∨¬(thr m).handle=h∨m=self∨(thr m).pA=true)):∀ {f n:Nat},n≤m→m<n+f→
  (∀ j,n≤j→j<m→(thr j).used=false∨¬(thr j).handle=h∨j=self∨(thr j).pA=true)→cA thr self h f n=if ¬(thr m).av=0 then (0,4) else ((m:Int),0)
 | 0,n,a,b,_=>absurd b (by omega)
 | f+1,n,a,b,hh=>by
  rw[cA];try simp only
  by_cases e:n=m
  ·subst e;rw[if_neg hm]
  ·rw[if_pos (hh n (Nat.le_refl _) (by omega))]
   exact uU hm (by omega) (by omega) (fun j x y=>hh j (by omega) y)
variable{k:Nat}{p q:List Int}
theorem aW.other(h:aW p0 d a)(hO:Ok k d.s p q):a.other x=(((d.other x).1:Int),(d.other x).2):=by
 unfold RA.other
 have key:∀ m,m<16→(a.s.thr m).used=true→ ∃ u,d.s.thr[m]?=some (some u)∧jw d.s.dK.funcs.length u (a.s.thr m):=fun m hm hus=>by
  obtain⟨o,ho⟩:=ay (show m<d.s.thr.length by rw[hO.lt];exact hm)
  cases o with
  | none=>rw[h.s.no m ho] at hus;cases hus
  | some u=>exact⟨u,ho,h.s.th m u ho⟩
 have uni:∀ m u,d.s.thr[m]?=some (some u)→u.handle=x→bm d.s.table x=some m:=fun m u hu e=>by
  have hm:m<16:=hO.lt ▸ (List.getElem?_eq_some_iff.1 hu).1
  rw[← e,(hO.th m u hu).h]
  exact xQ hm hO.ll ((hO.us m hm).2 ⟨u,hu⟩) (by
   have:(d.s.table.getD m (false,0))∈d.s.table:=List.mem_of_getElem? (getD_some (by rw[hO.ll];exact hm))
   exact(hO.tk _ this).1)
 cases hf:bm d.s.table x with
 | none =>
  rw[oy hf]
  refine qd (fun m _ hm=>?_)
  by_cases hus:(a.s.thr m).used=true
  ·obtain⟨u,hu,hs⟩:=key m (by omega) hus
   refine .inr (.inl fun e=>?_)
   rw[hs.h] at e;rw[uni m u hu e] at hf;cases hf
  ·exact .inl (by simpa using hus)
 | some m =>
  obtain⟨u,hu⟩:=pW hO x m hf
  have hm16:m<16:=hO.lt ▸ (List.getElem?_eq_some_iff.1 hu).1
  have hs:=h.s.th m u hu
  obtain⟨-, -, -,hh⟩:=vK hf
  have hh:u.handle=x:=by rw[(hO.th m u hu).h];exact hh
  have skip:∀ j,j≠m→j<16→(a.s.thr j).used=false∨¬(a.s.thr j).handle=x∨j=a.n∨(a.s.thr j).pA=true:=fun j hj h16=>by
   by_cases hus:(a.s.thr j).used=true
   ·obtain⟨u',hu',hs'⟩:=key j h16 hus
    refine .inr (.inl fun e=>?_)
    rw[hs'.h] at e;have:=uni j u' hu' e;rw[hf] at this;cases this;exact hj rfl
   ·exact .inl (by simpa using hus)
  by_cases c:m=d.n∨u.bq=true
  ·rw[jd hf hu c]
   refine qd (fun j _ hj=>?_)
   by_cases e:j=m
   ·subst e
    rcases c with c | c
    ·exact .inr (.inr (.inl (c.trans h.n.symm)))
    ·exact .inr (.inr (.inr (hs.d.trans c)))
   ·exact skip j e (by omega)
  ·have hsj:=hs.j
   rw[uU (m:=m) (by
    rintro(e | e | e | e)
    ·rw[hs.us] at e;cases e
    ·exact e (hs.h.trans hh)
    ·exact c (.inl (e.trans h.n))
    ·exact c (.inr (hs.d.symm.trans e))) (Nat.zero_le _) (by omega) (fun j _ hj=>skip j (by omega) (by omega))]
   by_cases hj:u.av = -1
   ·rw[oz hf hu c hj,if_neg (fun h=>h (by omega))]
   ·rw[kW hf hu c hj,if_pos (by omega)];rfl
/-! a thread begins -/
theorem BC{thr:Nat→RT}:∀ (l:List (Bool×Int)) (k:Nat),(∀ j,j<l.length→(l.getD j (false,0)).1=(thr (k+j)).used)→rFree? thr l.length k=slotFree? l k
 | [],_,_=>rfl
 | o::l,k,h=>by
  have h0:o.1=(thr k).used:=h 0 (by simp)
  rw[List.length_cons,rFree?,slotFree?,h0]
  split
  ·exact BC l (k+1) (fun j hj=>by
    have:=h (j+1) (by simpa using hj)
    rw[show k+1+j=k+(j+1) from by omega];exact this)
  ·rfl
theorem fh.IE{s:Spc}{r:RSp}(h:fh p0 s r)(hO:Ok k s p q):rFree? r.thr 16 0=slotFree? s.table 0:=by
 have:=BC (thr:=r.thr) s.table 0 (fun j hj=>by
  rw[hO.ll] at hj
  rw[Nat.zero_add]
  have hus:=hO.us j hj
  obtain⟨o,ho⟩:=ay (show j<s.thr.length by rw[hO.lt];exact hj)
  cases o with
  | none =>
   rw[h.no j ho]
   cases hb:(s.table.getD j (false,0)).1 with
   | false=>rfl
   | true=>obtain⟨t,ht⟩:=hus.1 hb;rw[ho] at ht;cases ht
  | some u=>rw[(h.th j u ho).us];exact hus.2 ⟨u,ho⟩)
 rw[hO.ll] at this;exact this
theorem yE:∀ (l:List (Bool×Int)) (i n:Nat),slotFree? l i=some n→i≤n∧n<i+l.length∧(l.getD (n-i) (false,0)).1=false
 | [],i,n,h=>by cases h
 | o::l,i,n,h=>by
  unfold slotFree? at h
  split at h
  ·have:=yE l (i+1) n h
   refine⟨by omega,by simp only[List.length_cons];omega,?_⟩
   rw[show n-i=(n-(i+1))+1 from by omega];exact this.2.2
  ·cases h;rename_i hb
   refine⟨Nat.le_refl _,by simp only[List.length_cons];omega,?_⟩
   rw[Nat.sub_self];simpa using hb
theorem CR{tk:Int}{n:Nat}(h:0≤tk∧tk≤1000000)(hn:n<16):lg (gU (tk+1)) n=dq (tk+1) n:=by
 unfold lg dq gU;omega
theorem fh.begin{s:Spc}{r:RSp}(h:fh p0 s r)(hO:Ok k s p q)(hk:k≤1000000){f arg:Int}(hf:0≤f∧f<(s.dK.funcs.length:Int))(ha:fq arg){n:Nat}(hn:slotFree? s.table 0=some n) :
  n<16∧r.begin f arg=((n:Int),r.begun n f arg)∧fh p0 (s.begin f arg).2.2 (r.begun n f arg)∧s.thr[n]?=some none∧((r.begun n f arg).thr n).handle=dq ((s.table.getD n (false,0)).2+1) n∧fq (dq ((s.table.getD n (false,0)).2+1) n):=by
 obtain⟨-,hlt,hfr⟩:=yE _ _ _ hn
 rw[hO.ll] at hlt
 rw[Nat.sub_zero] at hfr
 have h16:n<16:=by omega
 have hnl:n<s.thr.length:=by rw[hO.lt];exact h16
 have hnt:n<s.table.length:=by rw[hO.ll];exact h16
 have hno:s.thr[n]?=some none:=by
  obtain⟨o,ho⟩:=ay hnl
  cases o with
  | none=>exact ho
  | some u=>have:=(hO.us n h16).2 ⟨u,ho⟩;rw[hfr] at this;cases this
 have htk:=hO.tk _ (List.mem_of_getElem? (getD_some (d:=(false,(0:Int))) hnt))
 have htkn:=h.tk n h16
 have hw:gU (r.taken n+1)=(s.table.getD n (false,0)).2+1:=by rw[htkn];unfold gU;omega
 have hh:lg (gU (r.taken n+1)) n=dq ((s.table.getD n (false,0)).2+1) n:=by rw[htkn];exact CR (by omega) h16
 have hW:fq (dq ((s.table.getD n (false,0)).2+1) n):=by unfold dq fq;omega
 refine⟨h16,by unfold RSp.begin;rw[h.IE hO,hn],?_,hno,by show(dU r.thr n _ n).handle=_;rw[dF];exact hh,hW⟩
 rw[dX hn]
 refine⟨h.pg,fun m hm=>?_,fun m e=>?_,fun m t1 e=>?_,h.T.dU rfl ⟨fun j=>?_,⟨Int.le_refl 0,(by decide:(0:Int)≤8)⟩,⟨Int.le_refl 0,(by decide:(0:Int)≤16)⟩,⟨Int.le_refl 0,(by decide:(0:Int)≤1000000)⟩,⟨Int.le_refl 0,(by decide:(0:Int)≤18446744073709551615)⟩⟩,h.me,h.mx,h.cd,h.sm,h.sw,h.pp,h.bk,h.ak,h.nw,h.tl,h.tp,h.rc,h.tr,h.ow,fun x hx y hy=>?_⟩
 ·show dU r.taken n (gU (r.taken n+1)) m=((s.table.set n (true,(s.table.getD n (false,0)).2+1)).getD m (false,0)).2
  by_cases e:n=m
  ·subst e;rw[dF,List.getD_eq_getElem?_getD (l:=s.table.set _ _),List.getElem?_set_self hnt];exact hw
  ·rw[jk (fun h=>e h.symm),List.getD_eq_getElem?_getD,List.getElem?_set_ne e, ← List.getD_eq_getElem?_getD];exact h.tk m hm
 ·have e:(s.thr.set n (some (mP f arg (dq ((s.table.getD n (false,0)).2+1) n))))[m]?=some none:=e
  show(dU r.thr n (Fl (lg (gU (r.taken n+1)) n) f arg) m).used=false
  by_cases hm:n=m
  ·subst hm;rw[List.getElem?_set_self hnl] at e;cases e
  ·rw[List.getElem?_set_ne hm] at e;rw[jk (fun h=>hm h.symm)];exact h.no m e
 ·have e:(s.thr.set n (some (mP f arg (dq ((s.table.getD n (false,0)).2+1) n))))[m]?=some (some t1):=e
  show jw s.dK.funcs.length t1 (dU r.thr n (Fl (lg (gU (r.taken n+1)) n) f arg) m)
  by_cases hm:n=m
  ·subst hm;rw[List.getElem?_set_self hnl] at e;cases e;rw[dF,hh]
   exact⟨rfl,rfl,rfl,rfl,rfl,rfl,rfl,rfl,rfl,rfl,rfl,hf⟩
  ·rw[List.getElem?_set_ne hm] at e;rw[jk (fun h=>hm h.symm)];exact h.th m t1 e
 ·show 0≤dU (fun _=>(0:Int)) 0 arg j∧dU (fun _=>(0:Int)) 0 arg j≤_
  unfold dU;split
  ·exact ha
  ·exact⟨Int.le_refl 0,(by decide:(0:Int)≤18446744073709551615)⟩
 ·obtain⟨t1,a1,a2⟩:=h.mw x hx y hy
  refine⟨t1,?_,a2⟩
  show({s with thr:=s.thr.set n (some (mP f arg (dq ((s.table.getD n (false,0)).2+1) n))) }:Spc).at y.who=some t1
  rw[jQ hnl,if_neg (fun e=>by rw[e,jP,hno] at a1;cases a1)];exact a1
end
end Go.SLYtefdijgllbkmfaaGreat
namespace Go.SLYtefdijgllbkmfaaGreat
open Go Go.RowKit
variable{p0:eZ}
theorem mm{s:Spc}{w:Int}(h:cG s.ag w=0):nG s w:=fun x hx y hy e=>by
 have h1:=dj (f:=fun m:dB=>dp w m.wait) hx
 have h2:0<dp w x.wait:=List.countP_pos_iff.2 ⟨y,hy,by simp[EI,e]⟩
 unfold cG at h;omega
theorem qe{α β:Type}{f:α→β}:∀ (l:List α) (i:Nat),(l.map f).eraseIdx i=(l.eraseIdx i).map f
 | [],_=>rfl
 | _::_,0=>rfl
 | a::l,i+1=>by rw[List.map_cons,List.eraseIdx_cons_succ,List.eraseIdx_cons_succ,List.map_cons,qe l i]
theorem mL{α:Type}:∀ {l:List α} {i:Nat} {x:α},l[i]?=some x→l.set i x=l
 | [],_,_,h=>by simp at h
 | _::_,0,_,h=>by simp at h;rw[h];rfl
 | a::l,i+1,x,h=>by rw[List.set_cons_succ,mL (by simpa using h)]
theorem mem_erase{α:Type}{l:List α}{i:Nat}{x:α}(h:x∈l.eraseIdx i):x∈l:=List.mem_of_mem_eraseIdx h
section
variable{k:Nat}{s0:Spc}{d:Dng}{t:bo}{a:RA}
theorem St.Fz(S:St k s0 d t):nG d.s d.n:=mm (by have:=S.zero;unfold gN at this;omega)
theorem St.one(S:St k s0 d t)(w:Int):gN d.s w≤1:=by
 have h1:=S.h.ok.oE w
 have h2:=pT (s:=d.s) (w:=w)
 simp at h1;omega
theorem St.live(S:St k s0 d t){w:Int}(hw:0<gN d.s w):0≤w∧w.toNat≠d.n∧ ∃ u,d.s.thr[w.toNat]?=some (some u)∧(-1≤u.into∧u.into<8):=by
 have hb:=S.h.ok.oE w
 simp at hb
 obtain⟨u,hu,hu0,hu9⟩:=gO (show 0<ed d.s w by omega)
 obtain⟨h0,hat⟩:=fa hu
 refine⟨h0,fun e=>?_,u,hat,(S.h.ok.th _ u hat).R.i⟩
 rw[e,S.ht] at hat;cases hat;exact hu0 S.hw
theorem fh.aF{s:Spc}{r:RSp}(h:fh p0 s r){i:Nat}{y:dB}{z:gp}(hz:z=iM y)(how:y.held=true→0≤y.owner)(hmw:∀ w∈y.wait, ∃ t,s.at w.who=some t∧t.why=1) :
  fh p0 {s with ag:={s.ag with aF:=s.ag.aF.set i y } } {r with aF:=r.aF.set i z } :=
 ⟨h.pg,h.tk,h.no,h.th,h.T,h.me,(by show r.aF.set i z=(s.ag.aF.set i y).map iM;rw[List.map_set,h.mx,hz]),h.cd,h.sm,h.sw,h.pp,h.bk,h.ak,h.nw,h.tl,h.tp,h.rc,h.tr,fun x hx=>by
  rcases List.mem_or_eq_of_mem_set hx with hx | rfl
  ·exact h.ow x hx
  ·exact how,fun x hx=>by
  rcases List.mem_or_eq_of_mem_set hx with hx | rfl
  ·exact h.mw x hx
  ·exact hmw⟩
theorem aW.aF(h:aW p0 d a){i:Nat}{y:dB}{z:gp}(hz:z=iM y)(how:y.held=true→0≤y.owner)(hmw:∀ w∈y.wait, ∃ t,d.s.at w.who=some t∧t.why=1) :
  aW p0 (d.aZ {d.s.ag with aF:=d.s.ag.aF.set i y }) (a.w {a.s with aF:=a.s.aF.set i z }):=⟨h.s.aF hz how hmw,h.n,h.i,h.e,h.l⟩
theorem aW.bn(h:aW p0 d a){l:List (List dh)}:aW p0 (d.aZ {d.s.ag with bn:=l }) (a.w {a.s with bn:=l }) :=
 ⟨⟨h.s.pg,h.s.tk,h.s.no,h.s.th,h.s.T,h.s.me,h.s.mx,rfl,h.s.sm,h.s.sw,h.s.pp,h.s.bk,h.s.ak,h.s.nw,h.s.tl,h.s.tp,h.s.rc,h.s.tr,h.s.ow,h.s.mw⟩,h.n,h.i,h.e,h.l⟩
theorem aW.K7(h:aW p0 d a){i:Nat}{x:jr}(hx:d.s.ag.cf[i]?=some x){c:Int}:aW p0 (d.aZ {d.s.ag with cf:=d.s.ag.cf.set i {x with count:=c } }) (a.w {a.s with cf:=a.s.cf.set i c }) :=
 ⟨⟨h.s.pg,h.s.tk,h.s.no,h.s.th,h.s.T,h.s.me,h.s.mx,h.s.cd,(by show a.s.cf.set i c=(d.s.ag.cf.set i {x with count:=c }).map (·.count);rw[List.map_set,h.s.sm]),(by
  show a.s.sw=(d.s.ag.cf.set i {x with count:=c }).map fun x=>x.wait.map (·.who)
  rw[List.map_set,h.s.sw]
  exact(mL (l:=d.s.ag.cf.map fun x=>x.wait.map (·.who)) (x:=x.wait.map (·.who)) (by rw[List.getElem?_map,hx];rfl)).symm),h.s.pp,h.s.bk,h.s.ak,h.s.nw,h.s.tl,h.s.tp,h.s.rc,h.s.tr,h.s.ow,h.s.mw⟩,h.n,h.i,h.e,h.l⟩
theorem aW.K8(h:aW p0 d a){i:Nat}{x:jr}(hx:d.s.ag.cf[i]?=some x){l:List dh}{l':List Int}(hl:l'=l.map (·.who)):aW p0 (d.aZ {d.s.ag with cf:=d.s.ag.cf.set i {x with wait:=l } }) (a.w {a.s with sw:=a.s.sw.set i l' }) :=
 ⟨⟨h.s.pg,h.s.tk,h.s.no,h.s.th,h.s.T,h.s.me,h.s.mx,h.s.cd,(by
  show a.s.cf=(d.s.ag.cf.set i {x with wait:=l }).map (·.count)
  rw[List.map_set,h.s.sm]
  exact(mL (l:=d.s.ag.cf.map (·.count)) (x:=x.count) (by rw[List.getElem?_map,hx];rfl)).symm),(by
  show a.s.sw.set i l'=(d.s.ag.cf.set i {x with wait:=l }).map fun x=>x.wait.map (·.who)
  rw[List.map_set,h.s.sw,hl]),h.s.pp,h.s.bk,h.s.ak,h.s.nw,h.s.tl,h.s.tp,h.s.rc,h.s.tr,h.s.ow,h.s.mw⟩,h.n,h.i,h.e,h.l⟩
theorem aW.given(h:aW p0 d a){n r1:Int}{ok:Bool}(hc:ok=false∧r1=0∨ok=true∧r1=n+1∧0≤n∧nG d.s n∧ ∃ u,d.s.thr[n.toNat]?=some (some u)∧(-1≤u.into∧u.into<8)):aW p0 (d.given n ok) (a.m0 r1):=by
 unfold Dng.given RA.m0
 rcases hc with ⟨rfl,rfl⟩ | ⟨rfl,rfl,h0,hm,u,hu,hi⟩
 ·exact h
 ·rw[if_pos rfl,if_pos (by omega),show(n+1-1).toNat=n.toNat from by omega]
  exact h.dZ hu hi (by rw[show((n.toNat:Nat):Int)=n from by omega];exact hm) ⟨by decide,by decide⟩
theorem qf(l:List dh)(c:Int):l=[]∧aJ l c=(⟨0,0⟩,false,[])∨0<l.length∧pick c l.length<l.length∧aJ l c=(l.getD (pick c l.length) ⟨0,0⟩,true,l.eraseIdx (pick c l.length)):=by
 unfold aJ
 by_cases e:l.length=0
 ·obtain rfl:=List.eq_nil_of_length_eq_zero e;exact .inl ⟨rfl,rfl⟩
 ·rw[if_neg e];exact .inr ⟨by omega,fc (by omega),rfl⟩
theorem nG.unlock{s:Spc}{w:Int}(h:nG s w){i:Nat}{x:dB}(hx:s.ag.aF[i]?=some x){c:Int}{g:Gates}(hg:g.aF=s.ag.aF.set i (x.unlock c).2.2):nG {s with ag:=g } w:=fun y hy z hz=>by
 have hy:y∈g.aF:=hy
 rw[hg] at hy
 rcases List.mem_or_eq_of_mem_set hy with hy | rfl
 ·exact h y hy z hz
 ·refine h x (List.mem_of_getElem? hx) z ?_
  have hz:z∈(aJ x.wait c).2.2:=hz
  rcases qf x.wait c with ⟨e,e2⟩ | ⟨_,_,e2⟩
  ·rw[e2] at hz;cases hz
  ·rw[e2] at hz;exact mem_erase hz
theorem aW.IF(S:St k s0 d t)(h:aW p0 d a){m:Int}(_h0:0≤m){x:dB}(hx:d.s.ag.aF[m.toNat]?=some x)(hg:cE d.s.ag.aF m=some x)(his:x.is d.n=true)(c:Int){m':Nat}(hm':m'=m.toNat) :
  aW p0 (d.aZ {d.s.ag with aF:=d.s.ag.aF.set m.toNat (x.unlock c).2.2 }) (a.w (a.s.open m' c).2)∧
  ((x.unlock c).2.1=false∧(a.s.open m' c).1=0∨(x.unlock c).2.1=true∧(a.s.open m' c).1=(x.unlock c).1+1∧0≤(x.unlock c).1∧(x.unlock c).1.toNat≠d.n∧
   (∀ g:Gates,g.aF=d.s.ag.aF.set m.toNat (x.unlock c).2.2→nG {d.s with ag:=g } (x.unlock c).1)∧ ∃ u,d.s.thr[(x.unlock c).1.toNat]?=some (some u)∧(-1≤u.into∧u.into<8)):=by
 subst hm'
 have hx':a.s.aF[m.toNat]?=some (iM x):=by rw[h.s.mx,List.getElem?_map,hx];rfl
 have hmw:=h.s.mw x (List.mem_of_getElem? hx)
 have hc:=(xS (n:=d.n) (m:=m) (c:=c) S.h.ok.gt).2
 rw[show d.s.ag.unlock d.n m c=((x.unlock c).1,(x.unlock c).2.1,0,{d.s.ag with aF:=d.s.ag.aF.set m.toNat (x.unlock c).2.2 }) from by unfold Gates.unlock;rw[hg];simp only;rw[if_pos his]] at hc
 simp only at hc
 rcases qf x.wait c with ⟨e,e2⟩ | ⟨e,hp,e2⟩
 ·have hu:x.unlock c=(0,false,⟨[],false,0⟩):=by unfold dB.unlock;rw[e2]
  rw[hu,Bv hx' (by show(x.wait.map (·.who)).length=0;rw[e];rfl)]
  refine⟨h.aF (by show(⟨0,x.wait.map (·.who)⟩:gp)=_;rw[e];rfl) (fun h=>by cases h) (fun w hw=>by cases hw),.inl ⟨rfl,rfl⟩⟩
 ·have hu:x.unlock c=((x.wait.getD (pick c x.wait.length) ⟨0,0⟩).who,true,⟨x.wait.eraseIdx (pick c x.wait.length),true,(x.wait.getD (pick c x.wait.length) ⟨0,0⟩).who⟩):=by unfold dB.unlock;rw[e2]
  have hgd:=getD_some (d:=(⟨0,0⟩:dh)) hp
  have hmem:=List.mem_of_getElem? hgd
  have hlen:(iM x).wait.length=x.wait.length:=List.length_map ..
  have hgw:(iM x).wait.getD (pick c x.wait.length) 0=(x.wait.getD (pick c x.wait.length) ⟨0,0⟩).who:=bI (by show(x.wait.map (·.who))[_]?=_;rw[List.getElem?_map,hgd];rfl)
  have hope:=yp (s:=a.s) (c:=c) hx' (by rw[hlen];omega)
  rw[hlen,hgw,show(iM x).wait.eraseIdx (pick c x.wait.length)=(x.wait.eraseIdx (pick c x.wait.length)).map (·.who) from qe _ _] at hope
  rw[hope,hu]
  rw[hu] at hc
  obtain⟨t1,a1,a2⟩:=hmw _ hmem
  obtain⟨b0,b1⟩:=fa a1
  dsimp only at hc ⊢
  generalize hw:(x.wait.getD (pick c x.wait.length) ⟨0,0⟩).who=w at *
  refine⟨h.aF rfl (fun _=>b0) (fun y hy=>hmw y (mem_erase hy)),.inr ⟨rfl,rfl,b0,fun e=>?_,fun g hg'=>?_,t1,b1,(S.h.ok.th _ t1 b1).R.i⟩⟩
  ·rw[e,S.ht] at b1;cases b1;rw[S.hw] at a2;cases a2
  ·have h1:=hc w
   rw[jf ⟨rfl,rfl⟩] at h1
   have h2:=S.one w
   unfold gN at h2
   have h3:=mm (s:={d.s with ag:={d.s.ag with aF:=d.s.ag.aF.set m.toNat ⟨x.wait.eraseIdx (pick c x.wait.length),true,w⟩ } }) (w:=w) (by simp only;omega)
   intro y hy z hz
   have hy:y∈g.aF:=hy
   rw[hg'] at hy
   exact h3 y hy z hz
theorem aW.mutex(S:St k s0 d t)(h:aW p0 d a){c:Int}(hc:c=d.choice)(hop:d.i.op=25∨d.i.op=26∨d.i.op=27)(h1:d.i.op=25∨d.i.op=26→d.i.n<(d.s.ag.aF.length:Int))(h2:d.i.op=27→d.i.c<(d.s.ag.aF.length:Int)∧d.i.n<(d.s.ag.bn.length:Int)):aW p0 d.mutex (a.gate c):=by
 subst hc
 have hIn:=S.I.n
 have hIc:=S.I.c
 have hW:=S.waits
 have own:∀ x:dB,(iM x).owner=(a.n:Int)+1↔x.is d.n=true:=fun x=>by
  rw[h.n]
  show(if x.held=true then x.owner+1 else 0)=(d.n:Int)+1↔_
  unfold dB.is
  cases x.held with
  | false=>simp;omega
  | true=>simp
 unfold Dng.mutex
 simp only
 rcases hop with hop | hop | hop
 ·have hopA:a.i.op=25:=by rw[h.i];exact hop
  rw[if_pos hop]
  obtain⟨x,hx,hg⟩:=cp (l:=d.s.ag.aF) (i:=d.i.n) ⟨hIn.1,h1 (.inl hop)⟩
  have hx':a.s.aF[d.i.n.toNat]?=some (iM x):=by rw[h.s.mx,List.getElem?_map,hx];rfl
  have hxA:a.s.aF[a.i.n.toNat]?=some (iM x):=by rw[h.i];exact hx'
  have hmw:=h.s.mw x (List.mem_of_getElem? hx)
  have how:=h.s.ow x (List.mem_of_getElem? hx)
  by_cases his:x.is d.n=true
  ·have e:d.s.ag.lock d.n d.i.n=(false,4,d.s.ag):=by unfold Gates.lock;rw[hg];simp only;rw[if_pos (.inr his)]
   rw[e,if_neg (by simp),yu hopA hxA ((own x).2 his),h.i]
   exact h.pass (e:=4) S.ht (by decide)
  ·have hoA:¬(iM x).owner=(a.n:Int)+1:=fun e=>his ((own x).1 e)
   have e:d.s.ag.lock d.n d.i.n=((x.lock d.n).1,0,{d.s.ag with aF:=d.s.ag.aF.set d.i.n.toNat (x.lock d.n).2 }):=by
    unfold Gates.lock;rw[hg];simp only;rw[if_neg (by rw[hW];rintro(e | e);cases e;exact his e)]
   cases hh:x.held with
   | true =>
    have e2:x.lock d.n=(false,{x with wait:=x.wait++[⟨d.n,0⟩] }):=by unfold dB.lock;rw[if_pos hh]
    have wn:=wL (who:=(a.n:Int)) hxA (by show(if x.held=true then x.owner+1 else 0)≠0;rw[if_pos hh];have:=how hh;omega)
    rw[e,e2,if_pos ⟨rfl,rfl⟩,sP hopA hxA hoA (by rw[wn]),wn,h.i,h.n]
    have hb:=h.block (x:=d.i.n) (y:=0) S.ht (why:=1) (into := -1) (into':=0) ⟨by decide,by decide⟩ rfl (.inr rfl)
    have h3:=hb.aF (i:=d.i.n.toNat) (y:={x with wait:=x.wait++[⟨d.n,0⟩] }) (z:=⟨(iM x).owner,(iM x).wait++[(d.n:Int)]⟩) (by unfold iM;simp) how (fun w hw=>by
     rcases List.mem_append.1 hw with hw | hw
     ·exact hb.s.mw x (List.mem_of_getElem? hx) w hw
     ·rw[List.mem_singleton] at hw;subst hw
      refine⟨{t with why:=1,op:=d.i.op,into := -1 },ly ?_,rfl⟩
      unfold Dng.block;rw[ck S.ht];exact bW S.ht)
    exact h3
   | false =>
    have e2:x.lock d.n=(true,{x with held:=true,owner:=d.n }):=by unfold dB.lock;rw[if_neg (by rw[hh];simp)]
    have wn:=sO (who:=(a.n:Int)) hxA (by show ¬(if x.held=true then x.owner+1 else 0)≠0;rw[if_neg (by rw[hh];simp)];simp)
    rw[e,e2,if_neg (by simp),yw hopA hxA hoA (by rw[wn]),wn,h.i,h.n]
    have h3:=h.aF (i:=d.i.n.toNat) (y:={x with held:=true,owner:=d.n }) (z:={iM x with owner:=(d.n:Int)+1 }) rfl (fun _=>by show(0:Int)≤(d.n:Int);omega) hmw
    exact h3.pass (e:=0) (t:=t) S.ht (by decide)
 ·have hopA:a.i.op=26:=by rw[h.i];exact hop
  rw[if_neg (by omega),if_pos hop]
  obtain⟨x,hx,hg⟩:=cp (l:=d.s.ag.aF) (i:=d.i.n) ⟨hIn.1,h1 (.inr hop)⟩
  have hxA:a.s.aF[a.i.n.toNat]?=some (iM x):=by rw[h.i,h.s.mx,List.getElem?_map,hx];rfl
  by_cases his:x.is d.n=true
  ·rw[show d.s.ag.unlock d.n d.i.n d.choice=((x.unlock d.choice).1,(x.unlock d.choice).2.1,0,{d.s.ag with aF:=d.s.ag.aF.set d.i.n.toNat (x.unlock d.choice).2.2 }) from by unfold Gates.unlock;rw[hg];simp only;rw[if_pos his]]
   rw[qb hopA hxA (fun e=>e ((own x).2 his)),h.i]
   obtain⟨o1,o2⟩:=h.IF S hIn.1 hx hg his d.choice rfl
   refine aW.given (o1.pass (e:=0) (t:=t) S.ht (by decide)) ?_
   rcases o2 with o2 | ⟨p1,p2,p3,p4,p5,u,p6,p7⟩
   ·exact .inl o2
   ·refine .inr ⟨p1,p2,p3,fun y hy=>p5 _ rfl y hy,u,?_,p7⟩
    unfold Dng.pass
    exact cr (s:=((d.aZ _).tell _ _ _ _).s) p6 (Ne.symm p4)
  ·rw[show d.s.ag.unlock d.n d.i.n d.choice=(0,false,5,d.s.ag) from by unfold Gates.unlock;rw[hg];simp only;rw[if_neg his]]
   rw[yx hopA hxA (fun e=>his ((own x).1 e)),h.i]
   exact h.pass (e:=5) S.ht (by decide)
 ·have hopA:a.i.op=27:=by rw[h.i];exact hop
  rw[if_neg (by omega),if_neg (by omega)]
  obtain⟨x,hx,hg⟩:=cp (l:=d.s.ag.aF) (i:=d.i.c) ⟨hIc.1,(h2 hop).1⟩
  obtain⟨r,hr,hgr⟩:=cp (l:=d.s.ag.bn) (i:=d.i.n) ⟨hIn.1,(h2 hop).2⟩
  have hxA:a.s.aF[a.i.c.toNat]?=some (iM x):=by rw[h.i,h.s.mx,List.getElem?_map,hx];rfl
  by_cases his:x.is d.n=true
  ·rw[show d.s.ag.wait d.n d.i.n d.i.c d.choice=((x.unlock d.choice).1,(x.unlock d.choice).2.1,0,{d.s.ag with aF:=d.s.ag.aF.set d.i.c.toNat (x.unlock d.choice).2.2,bn:=d.s.ag.bn.set d.i.n.toNat (r++[⟨d.n,d.i.c⟩]) }) from by
    unfold Gates.wait;rw[hg,hgr];simp only;rw[if_neg (by rw[hW];simp),if_pos his]]
   rw[if_neg (by simp),qc hopA hxA (fun e=>e ((own x).2 his)),h.i,h.n]
   obtain⟨o1,o2⟩:=h.IF S hIc.1 hx hg his d.choice rfl
   have hcd:(a.s.open d.i.c.toNat d.choice).2.bn=d.s.ag.bn:=o1.s.cd
   have o3:=o1.bn (l:=d.s.ag.bn.set d.i.n.toNat (r++[⟨d.n,d.i.c⟩]))
   unfold RSp.queue
   rw[hcd,bI hr]
   refine aW.given (o3.block (t:=t) S.ht (into := -1) ⟨by decide,by decide⟩ rfl (.inl (S.Fz.unlock hx rfl))) ?_
   rcases o2 with o2 | ⟨p1,p2,p3,p4,p5,u,p6,p7⟩
   ·exact .inl o2
   ·refine .inr ⟨p1,p2,p3,fun y hy=>p5 _ rfl y hy,u,?_,p7⟩
    unfold Dng.block
    exact cr (s:=((d.aZ _).tell _ _ _ _).s) p6 (Ne.symm p4)
  ·rw[show d.s.ag.wait d.n d.i.n d.i.c d.choice=(0,false,5,d.s.ag) from by unfold Gates.wait;rw[hg,hgr];simp only;rw[if_neg (by rw[hW];simp),if_neg his]]
   rw[if_pos (by simp),uH hopA hxA (fun e=>his ((own x).1 e)),h.i]
   exact h.pass (e:=5) S.ht (by decide)
theorem aW.down(S:St k s0 d t)(h:aW p0 d a)(hop:d.i.op=30)(h1:d.i.n<(d.s.ag.cf.length:Int)):aW p0 d.cf a.down:=by
 have hIn:=S.I.n
 have hW:=S.waits
 obtain⟨x,hx,hg⟩:=cp (l:=d.s.ag.cf) (i:=d.i.n) ⟨hIn.1,h1⟩
 have hc:a.s.cf.getD d.i.n.toNat 0=x.count:=bI (by rw[h.s.sm,List.getElem?_map,hx];rfl)
 have hw:a.s.sw.getD d.i.n.toNat []=x.wait.map (·.who):=bI (by rw[h.s.sw,List.getElem?_map,hx];rfl)
 have hcA:a.s.cf.getD a.i.n.toNat 0=x.count:=by rw[h.i];exact hc
 unfold Dng.cf
 simp only
 rw[if_neg (by omega)]
 by_cases e:0<x.count
 ·rw[show d.s.ag.down d.n d.i.n=(true,0,{d.s.ag with cf:=d.s.ag.cf.set d.i.n.toNat {x with count:=x.count-1 } }) from by unfold Gates.down;rw[hg];simp only;rw[if_neg (by rw[hW];simp),if_pos e]]
  rw[if_neg (by simp),Bz (by rw[hcA];exact e),h.i,hc]
  exact(h.K7 hx (c:=x.count-1)).pass (e:=0) (t:=t) S.ht (by decide)
 ·rw[show d.s.ag.down d.n d.i.n=(false,0,{d.s.ag with cf:=d.s.ag.cf.set d.i.n.toNat {x with wait:=x.wait++[⟨d.n,0⟩] } }) from by unfold Gates.down;rw[hg];simp only;rw[if_neg (by rw[hW];simp),if_neg e]]
  rw[if_pos ⟨rfl,rfl⟩,uI (by rw[hcA];exact e),h.i,h.n,hw]
  exact(h.K8 hx (l:=x.wait++[⟨d.n,0⟩]) (l':=x.wait.map (·.who)++[(d.n:Int)]) (by simp)).block (t:=t) S.ht (into := -1) ⟨by decide,by decide⟩ rfl (.inl S.Fz)
theorem aW.up(S:St k s0 d t)(h:aW p0 d a){c:Int}(hc:c=d.choice)(hop:d.i.op=31)(h1:d.i.n<(d.s.ag.cf.length:Int)):aW p0 d.cf (a.up c):=by
 subst hc
 have hIn:=S.I.n
 obtain⟨x,hx,hg⟩:=cp (l:=d.s.ag.cf) (i:=d.i.n) ⟨hIn.1,h1⟩
 have hcn:a.s.cf.getD d.i.n.toNat 0=x.count:=bI (by rw[h.s.sm,List.getElem?_map,hx];rfl)
 have hw:a.s.sw.getD d.i.n.toNat []=x.wait.map (·.who):=bI (by rw[h.s.sw,List.getElem?_map,hx];rfl)
 have hu:=(KK (s:=d.i.n) (c:=d.choice) S.h.ok.gt).2
 have hwA:a.s.sw.getD a.i.n.toNat []=x.wait.map (·.who):=by rw[h.i];exact hw
 have hcA:a.s.cf.getD a.i.n.toNat 0=x.count:=by rw[h.i];exact hcn
 unfold Dng.cf
 simp only
 rw[if_pos hop]
 rcases qf x.wait d.choice with ⟨e,e2⟩ | ⟨e,hp,e2⟩
 ·have hno:¬ 0<(a.s.sw.getD a.i.n.toNat []).length:=by rw[hwA,e];simp
  have hsc:=S.h.ok.gt.sc x (List.mem_of_getElem? hx)
  by_cases hf:1048576≤x.count
  ·rw[show d.s.ag.up d.i.n d.choice=(0,false,2,d.s.ag) from by unfold Gates.up;rw[hg];simp only;rw[e2];simp only;rw[if_neg (by simp),if_pos hf],Bx hno (by rw[hcA];omega),h.i]
   exact h.pass (e:=2) S.ht (by decide)
  ·rw[show d.s.ag.up d.i.n d.choice=(0,false,0,{d.s.ag with cf:=d.s.ag.cf.set d.i.n.toNat {x with count:=x.count+1 } }) from by unfold Gates.up;rw[hg];simp only;rw[e2];simp only;rw[if_neg (by simp),if_neg hf],IC hno (by rw[hcA];omega),h.i,hcn]
   exact(h.K7 hx (c:=x.count+1)).pass (e:=0) (t:=t) S.ht (by decide)
 ·have hgd:=getD_some (d:=(⟨0,0⟩:dh)) hp
  rw[Bw (by rw[hwA,List.length_map];exact e),h.i,hw,List.length_map,show(x.wait.map (·.who)).getD (pick d.choice x.wait.length) 0=(x.wait.getD (pick d.choice x.wait.length) ⟨0,0⟩).who from bI (by rw[List.getElem?_map,hgd];rfl),qe]
  have eu:d.s.ag.up d.i.n d.choice=((x.wait.getD (pick d.choice x.wait.length) ⟨0,0⟩).who,true,0,{d.s.ag with cf:=d.s.ag.cf.set d.i.n.toNat {x with wait:=x.wait.eraseIdx (pick d.choice x.wait.length) } }):=by
   unfold Gates.up;rw[hg];simp only;rw[e2];simp only;rw[if_pos trivial]
  rw[eu] at hu ⊢
  have hu:=hu (x.wait.getD (pick d.choice x.wait.length) ⟨0,0⟩).who
  rw[jf ⟨rfl,rfl⟩] at hu
  generalize (x.wait.getD (pick d.choice x.wait.length) ⟨0,0⟩).who=w at *
  obtain⟨b0,b1,u,b2,b3⟩:=S.live (w:=w) (by unfold gN;omega)
  have h2:=S.one w
  unfold gN at h2
  have hn:nG {d.s with ag:={d.s.ag with cf:=d.s.ag.cf.set d.i.n.toNat {x with wait:=x.wait.eraseIdx (pick d.choice x.wait.length) } } } w:=mm (by simp only at hu ⊢;omega)
  have h3:=(h.K8 hx (l:=x.wait.eraseIdx (pick d.choice x.wait.length)) (l':=(x.wait.eraseIdx (pick d.choice x.wait.length)).map (·.who)) rfl).pass (x:=d.i.n) (y:=0) (e:=0) (t:=t) S.ht (by decide)
  unfold Dng.given
  rw[if_pos rfl]
  refine h3.dZ (u:=u) ?_ b3 (by rw[show((w.toNat:Nat):Int)=w from by omega];exact hn) ⟨by decide,by decide⟩
  unfold Dng.pass
  exact cr (s:=((d.aZ _).tell _ _ _ _).s) b2 (Ne.symm b1)
end
end Go.SLYtefdijgllbkmfaaGreat
namespace Go.SLYtefdijgllbkmfaaGreat
open Go Go.RowKit
variable{p0:eZ}
theorem JU{α β γ:Type}(f:α→β→γ){a a':α}{b b':β}(h:a=a')(h2:b=b'):f a b=f a' b':=by rw[h,h2]
def sigRun:List dh→List dB→List Int→List dB×List Int
 | [],ms,out=>(ms,out)
 | w::l,ms,out=>sigRun l (ms.set w.mutex.toNat ((ms.getD w.mutex.toNat iI).lock w.who).2) (if ((ms.getD w.mutex.toNat iI).lock w.who).1=true then out++[w.who] else out)
theorem hJ:∀ (l:List dh) (ms:List dB) (out:List Int),sigRun l ms out=((sigRun l ms []).1,out++(sigRun l ms []).2)
 | [],ms,out=>by simp[sigRun]
 | w::l,ms,out=>by
  rw[sigRun,sigRun]
  by_cases e:((ms.getD w.mutex.toNat iI).lock w.who).1=true
  ·rw[if_pos e,if_pos e,hJ l _ (out++[w.who]),hJ l _ ([]++[w.who])];simp
  ·rw[if_neg e,if_neg e,hJ l _ out]
theorem JV{n:Nat}(_h:0<n):pick 0 n=0:=by unfold pick;simp
theorem qI:∀ (r:List dh) (ms:List dB) (out:List Int),sigLoop r.length 0 r ms out=([],(sigRun r ms out).1,(sigRun r ms out).2)
 | [],ms,out=>rfl
 | w::l,ms,out=>by
  have e:aJ (w::l) 0=(w,true,l):=by unfold aJ;rw[if_neg (by simp),JV (by simp)];rfl
  rw[List.length_cons,sigLoop,e]
  exact qI l _ _
theorem yF{r:List dh}{c:Int}{ms:List dB}{out:List Int}(h:0<r.length):sigLoop 1 c r ms out=(r.eraseIdx (pick c r.length),(sigRun [r.getD (pick c r.length) ⟨0,0⟩] ms out).1,(sigRun [r.getD (pick c r.length) ⟨0,0⟩] ms out).2):=by
 have e:aJ r c=(r.getD (pick c r.length) ⟨0,0⟩,true,r.eraseIdx (pick c r.length)):=by unfold aJ;rw[if_neg (by omega)]
 rw[sigLoop,e];rfl
def qJ(ms:List dB)(w:Int):Prop:=∃ x∈ms, ∃ y∈x.wait,y.who=w
theorem kE{x:dB}{w:Int}:(x.lock w).2.wait=x.wait∧(x.lock w).1=true∨(x.lock w).2.wait=x.wait++[⟨w,0⟩]∧(x.lock w).1=false:=by
 unfold dB.lock;split
 ·exact .inr ⟨rfl,rfl⟩
 ·exact .inl ⟨rfl,rfl⟩
theorem CS{ms:List dB}{i:Nat}{w v:Int}(h:qJ ms v):qJ (ms.set i ((ms.getD i iI).lock w).2) v:=by
 obtain⟨x,hx,y,hy,e⟩:=h
 obtain⟨j,hj⟩:=List.getElem?_of_mem hx
 by_cases hij:i=j
 ·subst hij
  have hl:=(List.getElem?_eq_some_iff.1 hj).1
  refine⟨_,List.mem_of_getElem? (List.getElem?_set_self hl),y,?_,e⟩
  rw[bI hj]
  rcases kE (x:=x) (w:=w) with ⟨h1,_⟩ | ⟨h1,_⟩ <;> rw[h1]
  ·exact hy
  ·exact List.mem_append_left _ hy
 ·exact⟨x,List.mem_of_getElem? (by rw[List.getElem?_set_ne hij];exact hj),y,hy,e⟩
theorem uV{v:Int}:∀ {l:List dh} {ms:List dB} {out:List Int},qJ ms v→qJ (sigRun l ms out).1 v
 | [],_,_,h=>h
 | w::l,ms,out,h=>by rw[sigRun];exact uV (CS h)
theorem BD:∀ {l:List dh} {ms:List dB} {out:List Int},(sigRun l ms out).1.length=ms.length
 | [],_,_=>rfl
 | w::l,ms,out=>by rw[sigRun,BD,List.length_set]
theorem FA:∀ {l:List dh} {ms:List dB},(∀ w∈l,w.mutex.toNat<ms.length)→ ∀ w∈l,w.who∈(sigRun l ms []).2∨qJ (sigRun l ms []).1 w.who
 | [],_,_,w,hw=>by cases hw
 | z::l,ms,hl,w,hw=>by
  rw[sigRun,hJ]
  rcases List.mem_cons.1 hw with rfl | hw
  ·have hlt:=hl w List.mem_cons_self
   rcases kE (x:=ms.getD w.mutex.toNat iI) (w:=w.who) with ⟨h1,h2⟩ | ⟨h1,h2⟩
   ·rw[h2];exact .inl (List.mem_append_left _ (by simp))
   ·refine .inr (uV ⟨_,List.mem_of_getElem? (List.getElem?_set_self hlt),⟨w.who,0⟩,by rw[h1];simp,rfl⟩)
  ·rcases FA (l:=l) (ms:=ms.set z.mutex.toNat ((ms.getD z.mutex.toNat iI).lock z.who).2) (fun w hw=>by rw[List.length_set];exact hl w (List.mem_cons_of_mem _ hw)) w hw with h | h
   ·exact .inl (List.mem_append_right _ h)
   ·exact .inr h
theorem zZ{v:Int}:∀ {l:List dh} {ms:List dB} {out:List Int},qJ (sigRun l ms out).1 v→qJ ms v∨ ∃ w∈l,w.who=v
 | [],_,_,h=>.inl h
 | w::l,ms,out,h=>by
  rw[sigRun] at h
  rcases zZ h with ⟨x,hx,y,hy,e⟩ | ⟨z,hz,e⟩
  ·rcases List.mem_or_eq_of_mem_set hx with hx | rfl
   ·exact .inl ⟨x,hx,y,hy,e⟩
   ·by_cases hlt:w.mutex.toNat<ms.length
    ·have hm:ms.getD w.mutex.toNat iI∈ms:=List.mem_of_getElem? (getD_some hlt)
     rcases kE (x:=ms.getD w.mutex.toNat iI) (w:=w.who) with ⟨h1,_⟩ | ⟨h1,_⟩
     ·rw[h1] at hy;exact .inl ⟨_,hm,y,hy,e⟩
     ·rw[h1] at hy
      rcases List.mem_append.1 hy with hy | hy
      ·exact .inl ⟨_,hm,y,hy,e⟩
      ·rw[List.mem_singleton] at hy;subst hy;exact .inr ⟨w,List.mem_cons_self,e⟩
    ·rw[show ms.getD w.mutex.toNat iI=iI from by rw[List.getD_eq_getElem?_getD,List.getElem?_eq_none (by omega)];rfl] at hy
     rcases kE (x:=iI) (w:=w.who) with ⟨h1,_⟩ | ⟨h1,_⟩
     ·rw[h1] at hy;cases hy
     ·rw[h1] at hy;rw[show iI.wait=[] from rfl,List.nil_append,List.mem_singleton] at hy;subst hy;exact .inr ⟨w,List.mem_cons_self,e⟩
  ·exact .inr ⟨z,List.mem_cons_of_mem _ hz,e⟩
theorem BE:∀ {l:List dh} {ms:List dB}, ∀ v∈(sigRun l ms []).2, ∃ w∈l,w.who=v
 | [],_,v,h=>by cases h
 | w::l,ms,v,h=>by
  rw[sigRun,hJ] at h
  rcases List.mem_append.1 h with h | h
  ·split at h
   ·rw[List.nil_append,List.mem_singleton] at h;exact⟨w,List.mem_cons_self,h.symm⟩
   ·cases h
  ·obtain⟨z,hz,e⟩:=BE v h;exact⟨z,List.mem_cons_of_mem _ hz,e⟩
/-! one behind the other -/
def Dng.hP(d:Dng)(w:dh):Dng :=
 if (d.s.ag.aF.getD w.mutex.toNat iI).held=true then ({d with s:=d.s.aj w.who.toNat {d.s.t w.who.toNat with why:=1 } }:Dng).aZ {d.s.ag with aF:=d.s.ag.aF.set w.mutex.toNat ((d.s.ag.aF.getD w.mutex.toNat iI).lock w.who).2 }
 else (d.aZ {d.s.ag with aF:=d.s.ag.aF.set w.mutex.toNat ((d.s.ag.aF.getD w.mutex.toNat iI).lock w.who).2 }).dZ w.who.toNat 0
def Dng.sigs(d:Dng):List dh→Dng
 | []=>d
 | w::l=>(d.hP w).sigs l
section
variable{d:Dng}{a:RA}
structure Wt(s:Spc)(w:dh):Prop where
 m:w.mutex.toNat<s.ag.aF.length
 o:0≤w.who
 l:∃ u,s.thr[w.who.toNat]?=some (some u)∧(-1≤u.into∧u.into<8)
 n:nG s w.who
theorem aW.hP(h:aW p0 d a){w:dh}(hw:Wt d.s w):aW p0 (d.hP w) (ff a w):=by
 obtain⟨x,hx⟩:=ay hw.m
 have hx':a.s.aF[w.mutex.toNat]?=some (iM x):=by rw[h.s.mx,List.getElem?_map,hx];rfl
 have hmw:=h.s.mw x (List.mem_of_getElem? hx)
 have how:=h.s.ow x (List.mem_of_getElem? hx)
 obtain⟨u,hu,hi⟩:=hw.l
 have h0:=hw.o
 unfold Dng.hP ff
 rw[bI hx]
 cases hh:x.held with
 | true =>
  have e2:x.lock w.who=(false,{x with wait:=x.wait++[⟨w.who,0⟩] }):=by unfold dB.lock;rw[if_pos hh]
  rw[if_pos rfl,wL hx' (by show(if x.held=true then x.owner+1 else 0)≠0;rw[if_pos hh];have:=how hh;omega),if_neg (by simp),e2]
  have hT:=h.s.th _ u hu
  have hR:=h.s.T w.who.toNat
  have hs:=h.s.aj hu (t':={u with why:=1 }) (u':={a.s.t w.who.toNat with why:=1 }) ⟨hT.us,hT.h,rfl,hT.f,hT.p,hT.r,hT.v,hT.d,hT.j,hT.o,hT.i,hT.fl⟩ ⟨hR.r,hR.i,hR.j,hR.p,hR.v⟩ (.inr (.inr rfl))
  have h1:aW p0 {d with s:=d.s.aj w.who.toNat {d.s.t w.who.toNat with why:=1 } } {a with s:=a.s.aj w.who.toNat {a.s.t w.who.toNat with why:=1 } }:=⟨by rw[cW hu];exact hs,h.n,h.i,h.e,h.l⟩
  have h2:=h1.aF (i:=w.mutex.toNat) (y:={x with wait:=x.wait++[⟨w.who,0⟩] }) (z:=⟨(iM x).owner,(iM x).wait++[w.who]⟩) (by unfold iM;simp) how (fun y hy=>by
   rcases List.mem_append.1 hy with hy | hy
   ·exact h1.s.mw x (List.mem_of_getElem? hx) y hy
   ·rw[List.mem_singleton] at hy;subst hy
    refine⟨{u with why:=1 },?_,rfl⟩
    have:=ly (bW (s:=d.s) (t':={u with why:=1 }) hu)
    rw[show((w.who.toNat:Nat):Int)=w.who from by omega] at this
    show({d with s:=d.s.aj w.who.toNat {d.s.t w.who.toNat with why:=1 } }:Dng).s.at w.who=_
    rw[cW hu];exact this)
  exact h2
 | false =>
  have e2:x.lock w.who=(true,{x with held:=true,owner:=w.who }):=by unfold dB.lock;rw[if_neg (by rw[hh];simp)]
  rw[if_neg (by simp),sO hx' (by show ¬(if x.held=true then x.owner+1 else 0)≠0;rw[if_neg (by rw[hh];simp)];simp),if_pos rfl,e2]
  have h3:=h.aF (i:=w.mutex.toNat) (y:={x with held:=true,owner:=w.who }) (z:={iM x with owner:=w.who+1 }) rfl (fun _=>h0) hmw
  refine h3.dZ (u:=u) hu hi (fun y hy z hz=>?_) ⟨by decide,by decide⟩
  rw[show((w.who.toNat:Nat):Int)=w.who from by omega]
  rcases List.mem_or_eq_of_mem_set hy with hy | rfl
  ·exact hw.n y hy z hz
  ·exact hw.n x (List.mem_of_getElem? hx) z hz
theorem Wt.hP{w v:dh}(h:Wt d.s v)(hw:Wt d.s w)(hne:v.who≠w.who):Wt (d.hP w).s v:=by
 have hv0:=h.o
 have hw0:=hw.o
 obtain⟨u,hu,hi⟩:=h.l
 have hn:w.who.toNat≠v.who.toNat:=by omega
 obtain⟨x,hx⟩:=ay hw.m
 unfold Dng.hP
 rw[bI hx]
 have hN:∀ g:Gates,g.aF=d.s.ag.aF.set w.mutex.toNat (x.lock w.who).2→nG {d.s with ag:=g } v.who:=fun g hg y hy z hz=>by
  have hy:y∈g.aF:=hy
  rw[hg] at hy
  rcases List.mem_or_eq_of_mem_set hy with hy | rfl
  ·exact h.n y hy z hz
  ·rcases kE (x:=x) (w:=w.who) with ⟨h1,_⟩ | ⟨h1,_⟩
   ·rw[h1] at hz;exact h.n x (List.mem_of_getElem? hx) z hz
   ·rw[h1] at hz
    rcases List.mem_append.1 hz with hz | hz
    ·exact h.n x (List.mem_of_getElem? hx) z hz
    ·rw[List.mem_singleton] at hz;subst hz;exact fun e=>hne e.symm
 split
 ·exact⟨by show _<(d.s.ag.aF.set _ _).length;rw[List.length_set];exact h.m,hv0,⟨u,cr hu hn,hi⟩,fun y hy=>hN _ rfl y hy⟩
 ·exact⟨by show _<(d.s.ag.aF.set _ _).length;rw[List.length_set];exact h.m,hv0,⟨u,cr (s:={d.s with ag:=_ }) hu hn,hi⟩,fun y hy=>hN _ rfl y hy⟩
theorem aW.sigs:∀ (l:List dh) {d:Dng} {a:RA},aW p0 d a→(∀ w∈l,Wt d.s w)→(l.map (·.who)).Nodup→aW p0 (d.sigs l) (rSignal a l)
 | [],_,_,h,_,_=>h
 | w::l,d,a,h,hl,hn=>by
  rw[pf]
  rw[List.map_cons,List.nodup_cons] at hn
  have hw:=hl w List.mem_cons_self
  exact aW.sigs l (h.hP hw) (fun v hv=>(hl v (List.mem_cons_of_mem _ hv)).hP hw (fun e=>hn.1 (by rw[← e];exact List.mem_map_of_mem hv))) hn.2
/-! the program's way: all at once -/
theorem set_comm{α:Type}{l:List α}{i j:Nat}{x y:α}(h:i≠j):(l.set i x).set j y=(l.set j y).set i x:=List.set_comm x y h
theorem sU{n:Nat}{t1:bo}:∀ (W:List Int) {s:Spc},(∀ w∈W,w.toNat≠n)→bY (s.aj n t1) W=(bY s W).aj n t1
 | [],_,_=>rfl
 | w::W,s,h=>by
  have hw:=h w List.mem_cons_self
  show bY ((s.aj n t1).aj w.toNat {(s.aj n t1).t w.toNat with why:=1 }) W=(bY (s.aj w.toNat {s.t w.toNat with why:=1 }) W).aj n t1
  rw[← sU W (fun v hv=>h v (List.mem_cons_of_mem _ hv))]
  congr 1
  have e:(s.aj n t1).t w.toNat=s.t w.toNat:=by
   unfold Spc.t Spc.aj;simp only;rw[List.getD_eq_getElem?_getD,List.getElem?_set_ne (fun e=>hw e.symm), ← List.getD_eq_getElem?_getD]
  rw[e]
  unfold Spc.aj
  simp only
  rw[set_comm (fun e=>hw e.symm)]
theorem yG{n:Nat}:∀ (W:List Int) {s:Spc},(∀ w∈W,w.toNat≠n)→(bY s W).t n=s.t n
 | [],_,_=>rfl
 | w::W,s,h=>by
  show(bY (s.aj w.toNat {s.t w.toNat with why:=1 }) W).t n=_
  rw[yG W (fun v hv=>h v (List.mem_cons_of_mem _ hv))]
  unfold Spc.t Spc.aj;simp only;rw[List.getD_eq_getElem?_getD,List.getElem?_set_ne (h w List.mem_cons_self), ← List.getD_eq_getElem?_getD]
theorem rj{s:Spc}{n:Nat}{u:bo}(hu:s.thr[n]?=some (some u)):s.aj n u=s:=by
 unfold Spc.aj;rw[mL hu]
theorem fU{s:Spc}{n:Nat}{u v:bo}:(s.aj n u).aj n v=s.aj n v:=by unfold Spc.aj;simp only;rw[List.set_set]
theorem uW:∀ (W:List Int) {s:Spc},(∀ w∈W, ∃ u,s.thr[w.toNat]?=some (some u)∧u.why=1)→bY s W=s
 | [],_,_=>rfl
 | w::W,s,h=>by
  obtain⟨u,hu,h1⟩:=h w List.mem_cons_self
  show bY (s.aj w.toNat {s.t w.toNat with why:=1 }) W=s
  rw[cW hu,show({u with why:=1 }:bo)=u from by rw[← h1],rj hu]
  exact uW W (fun v hv=>h v (List.mem_cons_of_mem _ hv))
theorem uX{n:Nat}{u:bo}:∀ (W:List Int) {s:Spc},s.thr[n]?=some (some u)→(∃ w∈W,w.toNat=n)→bY (s.aj n {u with why:=1 }) W=bY s W
 | [],_,_,h=>by obtain⟨w,hw,_⟩:=h;cases hw
 | w::W,s,hu,h=>by
  show bY ((s.aj n {u with why:=1 }).aj w.toNat {(s.aj n {u with why:=1 }).t w.toNat with why:=1 }) W=bY (s.aj w.toNat {s.t w.toNat with why:=1 }) W
  by_cases e:w.toNat=n
  ·subst e
   rw[cW (bW hu),cW hu,fU]
  ·have hin:∃ w∈W,w.toNat=n:=by
    obtain⟨v,hv,ev⟩:=h
    rcases List.mem_cons.1 hv with rfl | hv
    ·exact absurd ev e
    ·exact⟨v,hv,ev⟩
   have e1:(s.aj n {u with why:=1 }).t w.toNat=s.t w.toNat:=by
    unfold Spc.t Spc.aj;simp only;rw[List.getD_eq_getElem?_getD,List.getElem?_set_ne (fun h=>e h.symm), ← List.getD_eq_getElem?_getD]
   have e2:∀ t1:bo,(s.aj n {u with why:=1 }).aj w.toNat t1=(s.aj w.toNat t1).aj n {u with why:=1 }:=fun t1=>by
    unfold Spc.aj;simp only;rw[set_comm (fun h=>e h.symm)]
   rw[e1,e2]
   exact uX W (cr hu e) hin
theorem CT{x:dB}{w:Int}:(x.lock w).1 = !x.held:=by unfold dB.lock;cases x.held <;> rfl
def Dng.all(d:Dng)(ms:List dB)(W:List Int):Dng:={d with s:=bY {d.s with ag:={d.s.ag with aF:=ms } } W }
theorem wP:∀ (l:List dh) (d:Dng) (W:List Int),(∀ w∈l,Wt d.s w)→(l.map (·.who)).Nodup→(∀ w∈W,0≤w)→
  (∀ w∈l,w.who∈(sigRun l d.s.ag.aF []).2∨w.who∈W)→(∀ w∈(sigRun l d.s.ag.aF []).2,w ∉ W)→
  (∀ w∈W,(∃ u,d.s.thr[w.toNat]?=some (some u)∧u.why=1)∨ ∃ z∈l,z.who=w)→
  d.sigs l=(d.all (sigRun l d.s.ag.aF []).1 W).dE (sigRun l d.s.ag.aF []).2
 | [],d,W,_,_,_,_,_,hB=>by
  show d=(d.all d.s.ag.aF W).dE []
  show d=d.all d.s.ag.aF W
  unfold Dng.all
  rw[uW W (fun w hw=>by
   rcases hB w hw with h | ⟨z,hz,_⟩
   ·exact h
   ·cases hz)]
 | w::l,d,W,hl,hn,h0,hM,hN,hB=>by
  have hw:=hl w List.mem_cons_self
  rw[List.map_cons,List.nodup_cons] at hn
  obtain⟨hn1,hn2⟩:=hn
  obtain⟨u,hu,hi⟩:=hw.l
  have hw0:=hw.o
  have hlr:∀ v∈l,Wt (d.hP w).s v:=fun v hv=>(hl v (List.mem_cons_of_mem _ hv)).hP hw (fun e=>hn1 (by rw[← e];exact List.mem_map_of_mem hv))
  have hms:(d.hP w).s.ag.aF=d.s.ag.aF.set w.mutex.toNat ((d.s.ag.aF.getD w.mutex.toNat iI).lock w.who).2:=by unfold Dng.hP;split <;> rfl
  have hrun:sigRun (w::l) d.s.ag.aF []=((sigRun l (d.hP w).s.ag.aF []).1,(if (d.s.ag.aF.getD w.mutex.toNat iI).held=true then [] else [w.who])++(sigRun l (d.hP w).s.ag.aF []).2):=by
   rw[sigRun,hJ,hms,CT]
   cases (d.s.ag.aF.getD w.mutex.toNat iI).held <;> simp
  rw[hrun] at hM hN ⊢
  have hnot:w.who ∉ (sigRun l (d.hP w).s.ag.aF []).2:=fun h=>by
   obtain⟨z,hz,e⟩:=BE _ h
   exact hn1 (by rw[← e];exact List.mem_map_of_mem hz)
  have hM':∀ v∈l,v.who∈(sigRun l (d.hP w).s.ag.aF []).2∨v.who∈W:=fun v hv=>by
   rcases hM v (List.mem_cons_of_mem _ hv) with h | h
   ·rcases List.mem_append.1 h with h | h
    ·split at h
     ·cases h
     ·rw[List.mem_singleton] at h;exact absurd (List.mem_map_of_mem (f:=(·.who)) hv) (by show ¬v.who∈_;rw[h];exact hn1)
    ·exact .inl h
   ·exact .inr h
  have hN':∀ v∈(sigRun l (d.hP w).s.ag.aF []).2,v ∉ W:=fun v hv=>hN v (List.mem_append_right _ hv)
  show(d.hP w).sigs l=_
  cases hh:(d.s.ag.aF.getD w.mutex.toNat iI).held with
  | true =>
   have hin:w.who∈W:=by
    rcases hM w List.mem_cons_self with h | h
    ·rw[hh] at h;exact absurd h hnot
    ·exact h
   have e1:d.hP w=({d with s:=d.s.aj w.who.toNat {u with why:=1 } }:Dng).aZ {d.s.ag with aF:=d.s.ag.aF.set w.mutex.toNat ((d.s.ag.aF.getD w.mutex.toNat iI).lock w.who).2 }:=by
    unfold Dng.hP;rw[if_pos hh,cW hu]
   rw[wP l (d.hP w) W hlr hn2 h0 hM' hN' (fun v hv=>by
    by_cases ev:v.toNat=w.who.toNat
    ·left;rw[e1,ev];exact⟨_,bW hu,rfl⟩
    ·rcases hB v hv with ⟨u',h1,h2⟩ | ⟨z,hz,e⟩
     ·left;rw[e1];exact⟨u',cr h1 (fun h=>ev h.symm),h2⟩
     ·rcases List.mem_cons.1 hz with rfl | hz
      ·exact absurd (by rw[e]) ev
      ·exact .inr ⟨z,hz,e⟩)]
   simp only[if_true,List.nil_append]
   congr 1
   unfold Dng.all
   generalize (sigRun l (d.hP w).s.ag.aF []).1=M
   rw[e1]
   exact congrArg (fun s=>({d with s:=s }:Dng)) (uX W (s:={d.s with ag:={d.s.ag with aF:=M } }) hu ⟨w.who,hin,rfl⟩)
  | false =>
   have hout:w.who ∉ W:=hN w.who (List.mem_append_left _ (by rw[hh];simp))
   have hW:∀ v∈W,v.toNat≠w.who.toNat:=fun v hv e=>hout (by
    have:=h0 v hv
    rw[show w.who=v from by omega];exact hv)
   have e1:d.hP w=(d.aZ {d.s.ag with aF:=d.s.ag.aF.set w.mutex.toNat ((d.s.ag.aF.getD w.mutex.toNat iI).lock w.who).2 }).dZ w.who.toNat 0:=by
    unfold Dng.hP;rw[if_neg (by rw[hh];simp)]
   rw[wP l (d.hP w) W hlr hn2 h0 hM' hN' (fun v hv=>by
    rcases hB v hv with ⟨u',h1,h2⟩ | ⟨z,hz,e⟩
    ·left;rw[e1];exact⟨u',cr (s:={d.s with ag:=_ }) h1 (fun h=>hW v hv h.symm),h2⟩
    ·rcases List.mem_cons.1 hz with rfl | hz
     ·exact absurd (by rw[e];exact hv) hout
     ·exact .inr ⟨z,hz,e⟩)]
   simp only[Bool.false_eq_true,if_false,List.singleton_append]
   show _=((d.all _ W).dZ w.who.toNat 0).dE _
   congr 1
   generalize (sigRun l (d.hP w).s.ag.aF []).1=M
   rw[e1]
   have k1:=yG (n:=w.who.toNat) W (s:={d.s with ag:={d.s.ag with aF:=M } }) hW
   have k2:=sU (n:=w.who.toNat) (t1:=(d.s.t w.who.toNat).cV 0) W (s:={d.s with ag:={d.s.ag with aF:=M } }) hW
   refine JU (fun s e=>(⟨s,d.n,d.i,d.choice,{d.out with aM:=d.out.aM++[((w.who.toNat:Nat):Int)] },e⟩:Dng)) ?_ ?_
   ·refine Eq.trans k2 ?_
    congr 1
    exact(congrArg (fun t:bo=>t.cV 0) k1).symm
   ·exact congrArg (fun t:bo=>d.ends++[t.dL 0]) k1.symm
end
end Go.SLYtefdijgllbkmfaaGreat
