/- Walks. Conditions: none. -/
import Derived.Test.YtpbjdoplfgeliaaGreatU07
import Derived.Test.YtpbjdoplfgeliaaGreatProg
import Derived.Test.YtpbjdoplfgeliaaGreatU12
import Derived.Test.YtpbjdoplfgeliaaGreatU14
import Derived.KernelRfl
import Derived.Test.YtpbjdoplfgeliaaGreatU06
set_option maxRecDepth 20000
set_option maxHeartbeats 4000000
namespace Go.SLYtpbjdoplfgeliaaGreat
open Go Go.RowKit Go.Proofs Go.Proofs.Tryz
attribute [local irreducible] ar aR bm bA bH Y
theorem A9{W:World}{A:aa}{dv pv:Value}{procs turn:Int}{demand prio:List Int}(hd:Rd W [A] aq 1 dv demand)(hpr:Rd W [A] aq 1 pv prio)(hb:prio.length≤1000000000∧demand.length≤1000000000∧ ∀ z∈demand,z≤1000000):Fn Tryz.prog W 34 [.int .i64 procs,dv,pv,.int .i64 turn] [A] Value (fun u=>.tuple #[u,.bool (fm procs demand prio turn).isSome]) (fun _=>True) (fun u=>[sl aq 1 u ((fm procs demand prio turn).getD []),A]):=by
 refine Fn.intro (N:=135) func34 rfl ntmps34 rfl fun F=>?_
 show ar _ _ _ _ _ _ [A,F]
 haveI hRD:∀ (H:List aa) [bE H A],aC W H dv aq 1 demand:=fun H h=>⟨hd.at h.has⟩
 haveI hRP:∀ (H:List aa) [bE H A],aC W H pv aq 1 prio:=fun H h=>⟨hpr.at h.has⟩
 refine .s (.r (.p (.a rfl) (.p (.a rfl) (.n (.t (.s (.r (.p (.m rfl) (.p (.len rfl) (.p (.a rfl) (.n (.t (.s (.s (.r (.p (.m rfl) (.p (.len rfl) (.p (.m rfl) (.p (.neq rfl rfl) (.p (.m rfl) ?_))))))))))))))))))))
 apply aR.gA 3 27 24 [24,25,26,27] rfl
 ·intro h24
  refine .g (.m rfl) (.g (.gtr rfl rfl) (.p (.u rfl rfl) (.n ?_)))
  refine .n9 .auto rfl (by first | exact fun _ h=>h | exact aw.kept .auto)
 ·intro h24
  refine .u (.u (.p (.t rfl rfl) (.n ?_)))
  refine .n9 .auto rfl (by first | exact fun _ h=>h | exact aw.kept .auto)
 refine .p (.m rfl) ?_
 apply aR.gY 3 31 28 [28,29,30,31] rfl
 ·intro h28
  refine .g (.m rfl) (.g (.lss rfl rfl) (.p (.u rfl rfl) (.n ?_)))
  refine .n9 .auto rfl (by first | exact fun _ h=>h | exact aw.kept .auto)
 ·intro h28
  refine .u (.u (.p (.t rfl rfl) (.n ?_)))
  refine .n9 .auto rfl (by first | exact fun _ h=>h | exact aw.kept .auto)
 refine .p (.m rfl) ?_
 apply aR.gY 3 35 32 [32,33,34,35] rfl
 ·intro h32
  refine .g (.m rfl) (.g (.gtr rfl rfl) (.p (.u rfl rfl) (.n ?_)))
  refine .n9 .auto rfl (by first | exact fun _ h=>h | exact aw.kept .auto)
 ·intro h32
  refine .u (.u (.p (.t rfl rfl) (.n ?_)))
  refine .n9 .auto rfl (by first | exact fun _ h=>h | exact aw.kept .auto)
 refine .n (.t (.cond rfl (fun h35=>?_) (fun h35=>?_)))
 ·simp only[Bool.or_eq_true,decide_eq_true_eq] at h35
  rw[A8 (turn:=turn) (show ¬(demand.length=prio.length∧demand.length≤8∧0≤procs∧procs≤64) by omega)]
  refine .s (.r (.p (.a rfl) (.p (.a rfl) (.n (.t (.e (.tr (.eE rfl rfl rfl fun w s=>⟨.slice none 0 0,?_,trivial,ak .auto s⟩))))))))
  rfl
 ·simp only[Bool.or_eq_false_iff,decide_eq_false_iff_not] at h35
  have h35:demand.length=prio.length∧demand.length≤8∧0≤procs∧procs≤64:=by omega
  have h28:demand.length=prio.length∧demand.length≤8∧within procs 64=true:=⟨h35.1,h35.2.1,nT h35.2.2.1 h35.2.2.2⟩
  refine .v (.t (.s (.s (.r (.p (.a rfl) (.n (.t (.b ?_))))))))
  refine .aZ (X:=Nat) [8,9,11,36,37,38,39,40,41,42,43,44,45,46,47,48,49,50,51,52] (fun k=>demand.length-k) (fun k=>k≤demand.length∧(prio.take k).all (fun p=>within p 7)=true) (fun k=>[(11,some (.int .i64 (k:Int)))]) (fun k=>[A,F]) 0 ?_ ?_ ?_ ?_
  ·exact⟨Nat.zero_le _,rfl⟩
  ·exact⟨rfl,trivial⟩
  ·exact fun w s=>aw.kept .auto w s
  rintro k ⟨hk,hal⟩
  refine .s (.s (.r (.p (.m rfl) (.p (.m rfl) (.p (.lss rfl rfl) (.n (.t (.da rfl (fun h38=>?_) (fun h38=>?_)))))))))
  ·refine .v (.t (.s (.b (.s (.r (.p (.m rfl) (.p (.m rfl) ?_)))))))
   obtain⟨x,hx⟩:=ai (show k<prio.length by omega)
   refine .p (.ix k rfl rfl rfl (by omega)) ?_
   refine .p (.lr rfl hx) ?_
   refine .p (.lss rfl rfl) (.p (.m rfl) ?_)
   apply aR.gA 6 52 46 [46,47,48,49,50,51,52] rfl
   ·intro h46
    refine .g (.m rfl) (.g (.m rfl) ?_)
    refine .g (.ix k rfl rfl rfl (by omega)) ?_
    refine .g (.lr rfl hx) ?_
    refine .g (.gtr rfl rfl) (.p (.u rfl rfl) (.n ?_))
    refine .n9 .auto rfl (by first | exact fun _ h=>h | exact aw.kept .auto)
   ·intro h46
    refine .u (.u (.u (.u (.u (.p (.t rfl rfl) (.n ?_))))))
    refine .n9 .auto rfl (by first | exact fun _ h=>h | exact aw.kept .auto)
   refine .n (.t (.cond rfl (fun h52=>?_) (fun h52=>?_)))
   ·simp only[Bool.or_eq_true,decide_eq_true_eq] at h52
    rw[pz (turn:=turn) hx (CU (by omega))]
    refine .s (.r (.p (.a rfl) (.p (.a rfl) (.n (.t (.e (.br (.tr (.tr (.br (.tr (.eE rfl rfl rfl fun w s=>⟨.slice none 0 0,?_,trivial,ak .auto s⟩))))))))))))
    rfl
   ·simp only[Bool.or_eq_false_iff,decide_eq_false_iff_not] at h52
    refine .v (.b (.t (.r (.p (.m rfl) ?_))))
    refine .p (.inc rfl rfl (by omega)) ?_
    refine .p (.a rfl) (.n ?_)
    refine .ax (k+1) .auto rfl ?_ ?_ ?_ ?_
    ·omega
    ·exact⟨by omega,by rw[jA hx,hal,nT (n:=7) (x:=x) (by omega) (by omega)];rfl⟩
    ·exact⟨rfl,trivial⟩
    ·exact fun w s=>aw.kept .auto w s
  ·obtain rfl:k=demand.length:=by omega
   rw[List.take_of_length_le (by omega)] at hal
   refine .x (.tx (.tx (.bh (.t (.s (.r (.p (.m rfl) ?_)))))))
   refine .aj rfl (af.Ek (enc:=aq) (k:=1) 0 demand.length rfl underlying50 typeInfo3 rfl rfl rfl rfl (by decide) (by decide) rfl rfl rfl rfl (by omega)) ?_
   rintro _ _ ⟨b54,rfl,rfl⟩
   refine .p (.a rfl) (.n (.t (.s (.s (.r (.p (.m rfl) (.p (.eql rfl rfl) (.n (.t (.da rfl (fun h56=>?_) (fun h56=>?_)))))))))))
   ·have h0:demand.length=0:=by omega
    rw[pA h28 hal h0]
    refine .s (.r (.p (.m rfl) (.p (.a rfl) (.p (.a rfl) (.n (.t (.e (.tr ?_))))))))
    rw[h0]
    refine .eE rfl rfl rfl fun w s=>⟨.slice (some ⟨b54,0,none⟩) 0 0,?_,trivial,ak .auto s⟩
    rfl
   ·have hn0:0<demand.length:=by omega
    rw[mQ h28 hal (by omega)]
    have hgr:=(I3 (demand:=demand) (prio:=prio) (pick turn demand.length) h35.2.2.1 (fun x hx=>by
     have:=List.all_eq_true.1 hal x hx
     unfold within at this
     simpa using this)).1
    rw[hgr]
    have hok0:=yj h28 hb.2.2
    refine .v (.t (.s (.r (.p (.m rfl) (.p (.m rfl) ?_)))))
    refine .p (.rem rfl rfl (by omega)) ?_
    refine .p (.a rfl) (.n (.t ?_))
    refine .Bx (X:=Unit) [13,61,62,63,64,65] (fun _=>True) (fun _=>[(13,some (.int .i64 ((pick turn demand.length):Int)))]) (fun _=>[sl aq 1 (.slice (some ⟨b54,0,none⟩) demand.length demand.length) (List.replicate demand.length 0),A,F]) ?_ ?_
    ·refine .s (.r (.p (.m rfl) (.p (.lss rfl rfl) (.n (.t (.da rfl (fun h62=>?_) (fun h62=>?_)))))))
     ·refine .r (.p (.m rfl) (.p (.m rfl) ?_))
      refine .p (.add rfl rfl (by have h1:=Int.lt_tmod_of_pos turn (show(0:Int)<(demand.length:Int) by omega);omega)) ?_
      refine .p (.a rfl) (.n ?_)
      refine .kF () .auto ?_ ?_ ?_
      ·trivial
      ·exact⟨congrArg (fun z=>some (Value.int .i64 z)) (I4 hn0 h62),trivial⟩
      ·exact fun w s=>aw.kept .auto w s
     ·refine .v ?_
      refine .kF () .auto ?_ ?_ ?_
      ·trivial
      ·exact⟨congrArg (fun z=>some (Value.int .i64 z)) (I5 hn0 h62),trivial⟩
      ·exact fun w s=>aw.kept .auto w s
    ·rintro⟨⟩ -
     refine .s (.s (.r (.p (.m rfl) (.p (.a rfl) (.n (.t (.b ?_)))))))
     refine .aZ (X:=Deal) [14,15,16,17,67,68,69,70,71,72,73,74,75,76,77,78,79,80,81,82,83,84,85,86,87,88,89,90,91,92,93,94,95,96,97,98,99,100,101,102,103,104,105,106,107,108,109,110,111,112,113,114,115,116,117,118,119,120,121,122,123,124,125,126,127,128,129,130,131,132,133] (fun z=>z.left.toNat) (fun z=>vJ z∧z.demand=demand∧z.prio=prio∧z.G (pick turn demand.length)=(vK procs demand prio).G (pick turn demand.length)) (fun z=>[(14,some (.int .i64 z.left))]) (fun z=>[sl aq 1 (.slice (some ⟨b54,0,none⟩) demand.length demand.length) z.out,A,F]) (vK procs demand prio) ?_ ?_ ?_ ?_
     ·exact⟨hok0,rfl,rfl,rfl⟩
     ·exact⟨rfl,trivial⟩
     ·exact fun w s=>aw.kept .auto w s
     rintro d ⟨hok,hdd,hdp,hG⟩
     have hleft:=hok.left
     have hol:=hok.ol
     rw[hdd] at hol
     have hpl0:=j7 (t:=turn) hn0
     refine .s (.s (.r (.p (.m rfl) (.p (.gtr rfl rfl) (.n (.t (.da rfl (fun h68=>?_) (fun h68=>?_))))))))
     ·refine .v (.t (.s (.b (.s (.r (.p (.a rfl) (.n (.t (.s (.s (.r (.p (.a rfl) (.n (.t (.b ?_)))))))))))))))
      refine .aZ (X:=Nat×Int) [15,16,17,71,72,73,74,75,76,77,78,79,80,81,82,83,84,85,86,87,88,89,90,91,92,93,94,95,96,97,98,99,100,101,102,103,104,105,106,107,108,109,110,111,112,113,114,115,116,117,118,119,120,121,122,123,124,125] (fun z=>demand.length-z.1) (fun z=>CV d (pick turn demand.length) z.1 z.2) (fun z=>[(16,some (.int .i64 (z.1:Int))),(15,some (.int .i64 z.2))]) (fun _=>[sl aq 1 (.slice (some ⟨b54,0,none⟩) demand.length demand.length) d.out,A,F]) (0, -1) ?_ ?_ ?_ ?_
      ·exact CV.new d _
      ·exact⟨rfl,rfl,trivial⟩
      ·exact fun w s=>aw.kept .auto w s
      rintro⟨k,b⟩ hlk
      simp only at hlk
      have hkd:=hlk.kl
      rw[hdd] at hkd
      refine .s (.s (.r (.p (.m rfl) (.p (.m rfl) (.p (.lss rfl rfl) (.n (.t (.da rfl (fun h73=>?_) (fun h73=>?_)))))))))
      ·refine .v (.t (.s (.b (.s (.r (.p (.m rfl) (.p (.m rfl) ?_)))))))
       refine .p (.add rfl rfl (by omega)) ?_
       refine .p (.m rfl) ?_
       obtain⟨i,hi⟩:∃ i,i=((pick turn demand.length)+k) % demand.length:=⟨_,rfl⟩
       have hii:(((pick turn demand.length):Int)+(k:Int)).tmod (demand.length:Int)=(i:Int):=by
        rw[← Int.natCast_add,hi, ← Int.ofNat_tmod]
       have hil:i<demand.length:=by rw[hi];exact Nat.mod_lt _ (by omega)
       have hi2:i=((pick turn demand.length)+k) % d.demand.length:=by rw[hdd];exact hi
       obtain⟨xi,hxi⟩:=ai (show i<d.out.length by omega)
       obtain⟨zi,hzi⟩:=ai hil
       obtain⟨pi,hpi⟩:=ai (show i<prio.length by omega)
       have hkl2:k<d.demand.length:=by rw[hdd];exact Int.ofNat_lt.1 h73
       have hpi2:d.prio[i]?=some pi:=by rw[hdp];exact hpi
       have hwi:=I6 hxi (show d.demand[i]?=some zi by rw[hdd];exact hzi)
       refine .p (.fa (Y.rem rfl rfl (by omega)) hii) ?_
       refine .p (.a rfl) (.n (.t (.s (.s ?_))))
       refine .draw [] [1,1,1,1,1,1,1,1,1] rfl (by kernel_rfl) ?_
       refine .p (.m rfl) (.p (.m rfl) ?_)
       refine .p (.ix i rfl rfl rfl (by omega)) ?_
       refine .p (.lr rfl hxi) ?_
       refine .p (.m rfl) (.p (.m rfl) ?_)
       refine .p (.ix i rfl rfl rfl (by omega)) ?_
       refine .p (.lr rfl hzi) ?_
       refine .p (.geq rfl rfl) (.n (.t (.da rfl (fun h89=>?_) (fun h89=>?_))))
       ·refine .x (.tx (.bh (.t (.r (.p (.m rfl) ?_)))))
        refine .p (.inc rfl rfl (by omega)) ?_
        refine .p (.a rfl) (.n ?_)
        refine .ax (k+1,b) .auto rfl ?_ ?_ ?_ ?_
        ·show demand.length-(k+1)<demand.length-k;omega
        ·exact hlk.step hkl2 _ (by rw[← hi2];exact qw (fun e=>by have:=hwi.1 e;omega))
        ·exact⟨rfl,rfl,trivial⟩
        ·exact fun w s=>aw.kept .auto w s
       ·have hW:d.Wt i:=hwi.2 (by omega)
        refine .v (.t (.s ?_))
        refine .draw [] [1,1,1,1,1,1,1,1,1,1,1,1,1,1,1,1,1,1,1,1,1,1,1,1,1,1,1,1,1,1,1,1,1,1,1] rfl (by kernel_rfl) ?_
        refine .p (.m rfl) (.p (.lss rfl rfl) (.p (.m rfl) ?_))
        refine .mE (t:=92) rfl (fun hb0=>?_) (fun hb0=>?_)
        ·refine .w (.w (.w (.w (.w (.w (.w (.w (.w (.p (.t rfl rfl) (.p (.m rfl) (.w (.w (.w (.w (.w (.w (.w (.w (.w (.w (.w (.w (.w (.w (.w (.w (.w (.w (.w (.w (.p (.t rfl rfl) (.n (.t (.gu rfl ?_))))))))))))))))))))))))))))))))))
         refine .r (.p (.m rfl) (.p (.a rfl) (.n (.b (.t (.r (.p (.m rfl) ?_)))))))
         refine .p (.inc rfl rfl (by omega)) ?_
         refine .p (.a rfl) (.n ?_)
         refine .ax (k+1,(i:Int)) .auto rfl ?_ ?_ ?_ ?_
         ·show demand.length-(k+1)<demand.length-k;omega
         ·exact hlk.step hkl2 _ (by rw[← hi2];exact OM hW hb0)
         ·exact⟨rfl,rfl,trivial⟩
         ·exact fun w s=>aw.kept .auto w s
        ·obtain⟨bi,rfl,hbi,hbw⟩:∃ i:Nat,b=(i:Int)∧i<demand.length∧d.Wt i:=by
          rcases hlk.b with e | ⟨i,e,hi,hw⟩
          ·exact absurd (show b<0 by omega) hb0
          ·exact⟨i,e,by rw[← hdd];exact hi,hw⟩
         obtain⟨qb,hqb⟩:=ai (show bi<prio.length by omega)
         have hqb2:d.prio[bi]?=some qb:=by rw[hdp];exact hqb
         obtain⟨yb,hyb⟩:=ai (show bi<d.out.length by omega)
         refine .g (.m rfl) (.g (.m rfl) ?_)
         refine .g (.ix i rfl rfl rfl (by omega)) ?_
         refine .g (.lr rfl hpi) ?_
         refine .g (.m rfl) (.g (.m rfl) ?_)
         refine .g (.ix bi rfl rfl rfl (by omega)) ?_
         refine .g (.lr rfl hqb) ?_
         refine .g (.gtr rfl rfl) (.p (.u rfl rfl) (.p (.m rfl) ?_))
         refine .mE (t:=103) rfl (fun hgt=>?_) (fun hgt=>?_)
         ·refine .w (.w (.w (.w (.w (.w (.w (.w (.w (.w (.w (.w (.w (.w (.w (.w (.w (.w (.w (.w (.p (.t rfl rfl) (.n (.t (.gu rfl ?_)))))))))))))))))))))))
          refine .r (.p (.m rfl) (.p (.a rfl) (.n (.b (.t (.r (.p (.m rfl) ?_)))))))
          refine .p (.inc rfl rfl (by omega)) ?_
          refine .p (.a rfl) (.n ?_)
          refine .ax (k+1,(i:Int)) .auto rfl ?_ ?_ ?_ ?_
          ·show demand.length-(k+1)<demand.length-k;omega
          ·exact hlk.step hkl2 _ (by rw[← hi2];exact ON hW hpi2 hqb2 hgt)
          ·exact⟨rfl,rfl,trivial⟩
          ·exact fun w s=>aw.kept .auto w s
         ·refine .g (.m rfl) (.g (.m rfl) ?_)
          refine .g (.ix i rfl rfl rfl (by omega)) ?_
          refine .g (.lr rfl hpi) ?_
          refine .g (.m rfl) (.g (.m rfl) ?_)
          refine .g (.ix bi rfl rfl rfl (by omega)) ?_
          refine .g (.lr rfl hqb) ?_
          refine .g (.eql rfl rfl) (.g (.m rfl) ?_)
          refine .mE (t:=113) rfl (fun heq=>?_) (fun heq=>?_)
          ·refine .g (.m rfl) (.g (.m rfl) ?_)
           refine .g (.ix i rfl rfl rfl (by omega)) ?_
           refine .g (.lr rfl hxi) ?_
           refine .g (.m rfl) (.g (.m rfl) ?_)
           refine .g (.ix bi rfl rfl rfl (by omega)) ?_
           refine .g (.lr rfl hyb) ?_
           refine .g (.lss rfl rfl) (.g (.t rfl rfl) (.p (.u rfl rfl) (.n (.t (.da rfl (fun hlt=>?_) (fun hlt=>?_))))))
           ·refine .r (.p (.m rfl) (.p (.a rfl) (.n (.b (.t (.r (.p (.m rfl) ?_)))))))
            refine .p (.inc rfl rfl (by omega)) ?_
            refine .p (.a rfl) (.n ?_)
            refine .ax (k+1,(i:Int)) .auto rfl ?_ ?_ ?_ ?_
            ·show demand.length-(k+1)<demand.length-k;omega
            ·exact hlk.step hkl2 _ (by rw[← hi2];exact OO hW hpi2 hqb2 hxi hyb heq hlt)
            ·exact⟨rfl,rfl,trivial⟩
            ·exact fun w s=>aw.kept .auto w s
           ·refine .v (.b (.t (.r (.p (.m rfl) ?_))))
            refine .p (.inc rfl rfl (by omega)) ?_
            refine .p (.a rfl) (.n ?_)
            refine .ax (k+1,(bi:Int)) .auto rfl ?_ ?_ ?_ ?_
            ·show demand.length-(k+1)<demand.length-k;omega
            ·exact hlk.step hkl2 _ (by rw[← hi2];exact OQ hpi2 hqb2 hxi hyb hgt hlt)
            ·exact⟨rfl,rfl,trivial⟩
            ·exact fun w s=>aw.kept .auto w s
          ·refine .w (.w (.w (.w (.w (.w (.w (.w (.w (.g (.u rfl rfl) (.p (.u rfl rfl) (.n (.t (.ep rfl ?_)))))))))))))
           refine .v (.b (.t (.r (.p (.m rfl) ?_))))
           refine .p (.inc rfl rfl (by omega)) ?_
           refine .p (.a rfl) (.n ?_)
           refine .ax (k+1,(bi:Int)) .auto rfl ?_ ?_ ?_ ?_
           ·show demand.length-(k+1)<demand.length-k;omega
           ·exact hlk.step hkl2 _ (by rw[← hi2];exact OP hpi2 hqb2 hgt heq)
           ·exact⟨rfl,rfl,trivial⟩
           ·exact fun w s=>aw.kept .auto w s
      ·have hkn:k=demand.length:=by have:¬k<demand.length:=fun e=>h73 (Int.ofNat_lt.2 e);omega
       have hnx:b=d.next (pick turn demand.length):=by
        have h:=hlk.n
        rw[hkn,show d.demand.length-demand.length=0 by rw[hdd];omega,Deal.bst] at h
        exact h
       refine .x (.tx (.tx (.bh (.t (.s (.s (.r (.p (.m rfl) (.p (.lss rfl rfl) (.n (.t (.da rfl (fun h127=>?_) (fun h127=>?_)))))))))))))
       ·rw[← hG,NU (by rw[← hnx];exact h127)]
        refine .x (.tx (.bp rfl (.tx (.tx (.bh (.t (.s (.r (.p (.m rfl) (.p (.a rfl) (.p (.a rfl) (.n (.t (.e (.eE rfl rfl rfl fun w s=>⟨(.slice (some ⟨b54,0,none⟩) demand.length demand.length),?_,trivial,ak .auto s⟩)))))))))))))))
        rfl
       ·obtain⟨bi,hbe,hbi,hbw⟩:∃ i:Nat,b=(i:Int)∧i<demand.length∧d.Wt i:=by
         rcases hlk.b with e | ⟨i,e,hi,hw⟩
         ·exact absurd (show b<0 by omega) h127
         ·exact⟨i,e,by rw[← hdd];exact hi,hw⟩
        subst hbe
        obtain⟨yb,hyb⟩:=ai (show bi<d.out.length by omega)
        obtain⟨zb,hzb⟩:=ai hbi
        have hyz:=(I6 hyb (show d.demand[bi]?=some zb by rw[hdd];exact hzb)).1 hbw
        have hzm:=hb.2.2 zb (List.mem_of_getElem? hzb)
        have hy0:=hok.om yb (List.mem_of_getElem? hyb)
        refine .v (.t (.r (.p (.m rfl) (.p (.m rfl) ?_))))
        refine .p (.ix bi rfl rfl rfl (by omega)) ?_
        refine .p (.lr rfl hyb) ?_
        refine .p (.add rfl rfl (by omega)) ?_
        refine .p (.ix bi rfl rfl rfl (by omega)) ?_
        refine .aj rfl (af.er (x':=yb+1) rfl rfl sizeOf3 rfl hyb (by decide) rfl .auto) ?_
        rintro _ _ ⟨rfl,rfl⟩
        refine .n (.b (.t (.r (.p (.m rfl) ?_))))
        refine .p (.sub rfl rfl (by omega)) ?_
        refine .p (.a rfl) (.n ?_)
        refine .ax (d.plus bi) .auto rfl ?_ ?_ ?_ ?_
        ·show(d.left-1).toNat<d.left.toNat;omega
        ·exact⟨KU hok (by omega) bi,hdd,hdp,(I1 (by omega) hnx.symm).trans hG⟩
        ·exact⟨rfl,trivial⟩
        ·show ∀ w,Sat _ w _→Sat _ w (seps [sl aq 1 (.slice (some ⟨b54,0,none⟩) demand.length demand.length) (d.out.set bi (d.out.getD bi 0+1)),A,F])
         rw[aP hyb]
         exact fun w s=>aw.kept .auto w s
     ·rw[← hG,I2 h68]
      refine .x (.tx (.tx (.bh (.t (.s (.r (.p (.m rfl) (.p (.a rfl) (.p (.a rfl) (.n (.t (.e (.eE rfl rfl rfl fun w s=>⟨(.slice (some ⟨b54,0,none⟩) demand.length demand.length),?_,trivial,ak .auto s⟩)))))))))))))
      rfl
end Go.SLYtpbjdoplfgeliaaGreat
namespace Go.SLYtpbjdoplfgeliaaGreat
open Go Go.RowKit
theorem mc{l:List Int}{i:Nat}{x:Int}(h:l[i]?=some x):l.getD i 0=x:=by rw[List.getD_eq_getElem?_getD,h];rfl
theorem xG{procs turn:Int}{demand prio out:List Int}(hd:∀ z∈demand,z≤1000000)(h:fm procs demand prio turn=some out):(bR out:Int)=procs∨ ∀ (n:Nat) (z w:Int),demand[n]?=some z→out[n]?=some w→z≤w:=by
 by_cases c:demand.length=prio.length∧demand.length≤8∧0≤procs∧procs≤64
 ·have c2:demand.length=prio.length∧demand.length≤8∧within procs 64=true:=⟨c.1,c.2.1,nT c.2.2.1 c.2.2.2⟩
  by_cases hp:prio.all (fun p=>within p 7)=true
  ·by_cases h0:demand.length=0
   ·refine .inr fun n z w hz _=>?_
    have:=(List.getElem?_eq_some_iff.1 hz).1
    omega
   ·rw[mQ c2 hp h0] at h
    obtain rfl:=Option.some.inj h
    obtain⟨h1,h2,h3⟩:=q9 (pick turn demand.length) 8 _ (yj (procs:=procs) c2 hd)
    have hz:bR (vK procs demand prio).out=0:=pX _
    have hl:(vK procs demand prio).left=procs:=rfl
    have hg:=(I3 (demand:=demand) (prio:=prio) (pick turn demand.length) c.2.2.1 (fun x hx=>by
     have:=List.all_eq_true.1 hp x hx
     unfold within at this
     simpa using this)).2
    have h1l:=h1.left
    by_cases e:0<(priosN (pick turn demand.length) 8 (vK procs demand prio)).left
    ·refine .inr fun n z w hz' hw=>?_
     have:=hg e n
     rw[I6 hw (show(priosN (pick turn demand.length) 8 (vK procs demand prio)).demand[n]?=some z by rw[h2];exact hz')] at this
     omega
    ·left
     rw[hz,hl] at h3
     omega
  ·obtain⟨p,hp2,hb⟩:∃ p∈prio,within p 7=false:=by
    refine Decidable.of_not_not fun e=>hp (List.all_eq_true.2 fun p hp=>?_)
    cases e2:within p 7 with
    | true=>rfl
    | false=>exact absurd ⟨p,hp,e2⟩ e
   obtain⟨i,hi⟩:=List.getElem?_of_mem hp2
   rw[pz hi hb] at h;cases h
 ·rw[A8 c] at h;cases h
def mvT(c:Nat→Nat)(want:List Int):Nat→Nat
 | 0=>0
 | n+1=>mvT c want n+(c n-(want.getD n 0).toNat)
def Br(c:Nat→Nat)(want:List Int):Nat→Nat
 | 0=>0
 | n+1=>Br c want n+((want.getD n 0).toNat-c n)
theorem sZ{c:Nat→Nat}{want:List Int}:∀ n,mvT c want n+Br c want n=0↔ ∀ j,j<n→c j=(want.getD j 0).toNat
 | 0=>⟨fun _ j hj=>absurd hj (by omega),fun _=>rfl⟩
 | n+1=>by
  have ih:=sZ (c:=c) (want:=want) n
  rw[mvT,Br]
  constructor
  ·intro h j hj
   by_cases e:j=n
   ·subst e;omega
   ·exact ih.1 (by omega) j (by omega)
  ·intro h
   have h1:=ih.2 fun j hj=>h j (by omega)
   have h2:=h n (by omega)
   omega
theorem iv{m:Nat}{k:Krn}(h:Inv m k){n:Nat}{l:Lib}(hl:k.libs[n]?=some l):l.procs.length=k.owner.count (n:Int):=by
 rw[h.ag.procs hl];exact gT _ _ _
theorem vq{m:Nat}{k:Krn}(h:Inv m k){prio:List Int}{turn:Int}(hne:k.targets prio turn≠[]):k.fair prio turn=decide (mvT (fun j=>k.owner.count (j:Int)) (k.targets prio turn) (k.targets prio turn).length+Br (fun j=>k.owner.count (j:Int)) (k.targets prio turn) (k.targets prio turn).length=0):=by
 have htf:=dT h.ok prio turn
 have hlen:=htf.2.2.2 hne
 by_cases c:mvT (fun j=>k.owner.count (j:Int)) (k.targets prio turn) (k.targets prio turn).length+Br (fun j=>k.owner.count (j:Int)) (k.targets prio turn) (k.targets prio turn).length=0
 ·rw[decide_eq_true c]
  have hz:=(sZ _).1 c
  refine DN hlen (List.ext_getElem? fun n=>?_)
  rw[List.getElem?_map]
  by_cases hn:n<(k.targets prio turn).length
  ·obtain⟨w,hw⟩:=ai hn
   obtain⟨l,hl⟩:=ai (show n<k.libs.length by omega)
   have:=hz n hn
   rw[mc hw] at this
   have h0:=(htf.2.1 w (List.mem_of_getElem? hw)).1
   have:=iv h hl
   rw[hw,hl]
   show some (l.procs.length:Int)=some w
   rw[show(l.procs.length:Int)=w by omega]
  ·rw[List.getElem?_eq_none (by omega),List.getElem?_eq_none (by omega)];rfl
 ·rw[decide_eq_false c]
  obtain⟨n,hn,hne2⟩:∃ n,n<(k.targets prio turn).length∧k.owner.count (n:Int)≠((k.targets prio turn).getD n 0).toNat:=by
   refine Decidable.of_not_not fun g=>c ((sZ _).2 fun j hj=>?_)
   exact Decidable.of_not_not fun e=>g ⟨j,hj,e⟩
  obtain⟨w,hw⟩:=ai hn
  obtain⟨l,hl⟩:=ai (show n<k.libs.length by omega)
  rw[mc hw] at hne2
  have:=iv h hl
  exact AI hl hw (by omega)
theorem Ba{k k2:Krn}(h:jN k k2):k2.demand=k.demand:=by
 have hd:∀ k:Krn,k.demand=(eO k).map fun s=>(s.ready.length:Int):=fun k=>by unfold Krn.demand eO;rw[List.map_map];rfl
 rw[hd,hd,h.aI]
theorem shared{m:Nat}{k:Krn}(h:Inv m k){prio want:List Int}{turn:Int}(hf:fm (k.owner.length:Int) k.demand prio turn=some want)(hne:want≠[]){k2:Krn}(e:k2=(k.share prio turn).1) :
  fm (k2.owner.length:Int) k2.demand prio turn=some want∧k2.targets prio turn=want∧want.length=k2.libs.length∧(∀ w∈want,0≤w∧w≤64)∧(∀ (i:Nat) (w:Int),want[i]?=some w→k2.owner.count (i:Int)=w.toNat)∧k2.fair prio turn=true:=by
 obtain⟨h1,h2⟩:=dH h prio turn
 have ht:k.targets prio turn=want:=by unfold Krn.targets;rw[hf];rfl
 have hr:=Cg h prio turn
 have htf:=dT h.ok prio turn
 rw[ht] at hr htf
 subst e
 have ht2:=(yQ h2 prio turn).trans ht
 refine⟨by rw[Ba h2,h2.ol];exact hf,ht2,(htf.2.2.2 hne).trans h2.ll.symm,htf.2.1,hr,?_⟩
 rw[vq h1 (by rw[ht2];exact hne),ht2]
 refine decide_eq_true ((sZ _).2 fun j hj=>?_)
 obtain⟨w,hw⟩:=ai hj
 rw[mc hw]
 exact hr j w hw
theorem KV{ps:List gn}(h:kn ps=0):(ps.map (·.prio)).all (fun p=>within p 7)=true:=by
 refine List.all_eq_true.2 fun x hx=>?_
 obtain⟨p,hp,rfl⟩:=List.mem_map.1 hx
 have hc:=(ji h).2.2 p hp
 unfold dD at hc
 by_cases g:gw p=true
 ·unfold gw at g
  simp only[Bool.and_eq_true] at g
  exact g.1.1.1.1.1.2
 ·rw[if_neg g] at hc;cases hc
theorem FM{procs turn:Int}{demand prio:List Int}(h1:demand.length=prio.length)(h2:demand.length≤8)(h3:0≤procs∧procs≤64)(hp:prio.all (fun p=>within p 7)=true):∃ want,fm procs demand prio turn=some want:=by
 have c:demand.length=prio.length∧demand.length≤8∧within procs 64=true:=⟨h1,h2,nT h3.1 h3.2⟩
 by_cases h0:demand.length=0
 ·exact⟨_,pA c hp h0⟩
 ·exact⟨_,mQ c hp h0⟩
theorem sf{want:List Int}{n:Nat}{w:Int}(h:want[n]?=some w):bR (want.take (n+1))=bR (want.take n)+w.toNat:=by rw[aW h,kh]
theorem sj(want:List Int)(n:Nat):bR (want.take n)≤bR want:=by
 conv=>rhs;rw[← List.take_append_drop n want]
 unfold bR
 rw[List.map_append,List.sum_append]
 omega
end Go.SLYtpbjdoplfgeliaaGreat
