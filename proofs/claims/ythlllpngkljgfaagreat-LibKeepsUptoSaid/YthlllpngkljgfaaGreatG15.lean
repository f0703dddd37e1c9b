/- Walks of functions, and what they compute. Conditions: none, this text proves no statement. -/
import Derived.Test.YthlllpngkljgfaaGreatG07
import Derived.Test.YthlllpngkljgfaaGreatProg
import Derived.Test.YthlllpngkljgfaaGreatG11
import Derived.Test.YthlllpngkljgfaaGreatG14
import Derived.KernelRfl
set_option maxRecDepth 20000
set_option maxHeartbeats 4000000
namespace Go.SLYthlllpngkljgfaaGreat
open Go Go.RowKit Go.Proofs Go.Proofs.Tryz
attribute [local irreducible] ar aM bm bA bE Y
theorem IQ{W:World}{b q:Nat}{rs:List (List Int)}(hq:q<rs.length)(hl:rs.length≤64∧ ∀ r∈rs,r.length≤1000000000):Fn Tryz.prog W 43 [ptr b,.int .i64 (q:Int)] [fz b rs] Value (fun u=>u) (fun _=>True) (fun u=>[sl au 1 u (rs.getD q []),fz b rs]):=by
 refine Fn.intro (N:=9) func43 rfl ntmps43 rfl fun F=>?_
 show ar _ _ _ _ _ _ [fz b rs,F]
 refine .o2 (C:=fz b rs) .auto rfl ?_
 rintro v xs hxs
 have hxl:=ay hxs
 obtain⟨x,hx⟩:=ak (show q<xs.length by omega)
 have hx2:=eH hxs hx
 rw[aY hx2]
 refine J 9 ?_
 refine .c call103 rfl (k4 (v:=v) (xs:=xs) (n:=(q:Int)) (by omega)) fun _ _=>?_
 rw[bf,hx]
 refine .fr .auto (cc (f:=fun x:Nat×List Int=>fh x.1 x.2) hx) ?_
 refine .c call104 rfl (ra (b:=x.1) (l:=x.2) (hl.2 x.2 (List.mem_of_getElem? hx2))) fun u8 _=>?_
 refine .to (A:=aO (fun x:Nat×List Int=>fh x.1 x.2) xs) .auto (cK (f:=fun x:Nat×List Int=>fh x.1 x.2) hx) ?_
 exact JR 4 u8
theorem A1{W:World}{A:aa}{v:aS}{u:Value}{acts:List Nn}{np:Int}(hp:eE W [A] v)(hl:v.fs.length≤1000000000∧v.bF.length≤1000000000∧v.bb.length≤1000000000)(hw:∀ f∈v.p.funcs, ∀ i∈f,fj i.n)(hr:Rd W [A] Hp 3 u acts)(_hal:acts.length≤1000000000)(hnp:0≤np∧np≤255):Fn Tryz.prog W 7 [.agg (ez v).toArray,.int .u8 np,u] [A] Unit (fun _=>.bool true) (fun _=>True) (fun _=>[A]):=by
 refine Fn.intro (N:=260) func7 rfl ntmps7 rfl fun F=>?_
 haveI hRI:∀ (H:List aa) [bj H A],ax W H u Hp 3 acts:=fun H h=>⟨hr.at h.has⟩
 show ar _ _ _ _ _ _ [A,F]
 refine J 2 ?_
 refine .ai rfl (ae.box rfl rfl rfl) ?_
 rintro _ _ ⟨b3,rfl,rfl⟩
 refine .mem (H':=[arr b3 0 (ez v),A,F]) (fun w s=>s) ?_
 refine J 6 ?_
 refine .c call29 rfl (uF hp hl) fun o ho=>?_
 refine JD 14 (fun h33=>?_) fun h33=>?_
 ·refine J 2 ?_
  refine .c call30 rfl se fun _ _=>?_
  exact JR 5 ()
 ·have hc:dB v.p=0:=Decidable.not_not.mp h33
  obtain⟨ka,rfl⟩:=Option.isSome_iff_exists.1 (ho.trans (decide_eq_true hc))
  refine .fr (A:=optH (fun b=>eT b (Spc.new v.p)) (some ka)) (Bs:=[eT ka (Spc.new v.p)]) .auto fc ?_
  refine .o1 (C:=eT ka (Spc.new v.p)) .auto rfl ?_
  rintro pt -
  have hok:gZ 1 (Spc.new v.p):=gZ.new ⟨hc,hw⟩
  obtain⟨mk,hmkd⟩:∃ mk,mk=np.toNat % 9:=⟨_,rfl⟩
  have hmk6:mk<9:=by rw[hmkd];exact Nat.mod_lt _ (by decide)
  have hmk:np.tmod 9=(mk:Int):=by
   obtain⟨m,rfl⟩:∃ m:Nat,np=(m:Int):=⟨np.toNat,by omega⟩
   rw[hmkd,Int.toNat_natCast];exact(Int.ofNat_tmod m 9).symm
  have hI0:=eC.new hok (mk:Int)
  have hvl0:(Lib.new (Spc.new v.p) (mk:Int)).vs.length=mk:=by
   show(List.replicate _ _).length=_;rw[List.length_replicate];unfold aG;omega
  refine J 5 ?_
  refine .p (.fm (Y.rem rfl rfl (by omega)) hmk) ?_
  refine .p (.iD underlying5 underlying3 rfl (by omega)) ?_
  refine J 7 ?_
  refine .c call31 rfl (IC (bs:=ka) (ps:=pt) (s:=Spc.new v.p) (p:=(mk:Int)) (pB _)) fun z40 _=>?_
  obtain⟨b40,br⟩:=z40
  simp only
  refine J 10 ?_
  refine .aX (X:=Nat×Lib) [11,12,13,14,41,42,43,44,45,46,47,48,49,50,51,52,53,54,55,56,57,58,59,60,61,62,63,64,65,66,67,68,69,70,71,72,73,74,75,76,77,78,79,80,81,82,83,84,85,86,87,88,89,90,91,92,93,94,95,96,97,98,99,100,101,102] (fun z=>acts.length-z.1) (fun z=>z.1≤acts.length∧z.1≤150∧eC z.1 z.2∧Lk z.2∧Pk z.2∧z.2.vs.length=mk) (fun z=>[(11,some (.int .i64 (z.1:Int)))]) (fun z=>[aW b40 ka br z.2,A,F]) (0,(Lib.new (Spc.new v.p) (mk:Int))) ?_ ?_ ?_ ?_
  ·exact⟨Nat.zero_le _,Nat.zero_le _,hI0,Lk.new _ _,Pk.new _ _,hvl0⟩
  ·exact⟨rfl,trivial⟩
  ·exact fun w s=>aq.kept .auto w s
  rintro⟨k,l⟩ ⟨hk,hk2,hI,hK,hP,hvl⟩
  simp only at hk hk2 hI hK hP hvl
  refine J 8 ?_
  apply aM.eb 3 48 45 [45,46,47,48] rfl
  ·intro h45
   refine J 4 ?_
   refine .eu .auto rfl (by first | exact fun _ h=>h | exact aq.kept .auto)
  ·intro h45
   refine J 4 ?_
   refine .eu .auto rfl (by first | exact fun _ h=>h | exact aq.kept .auto)
  refine JD 2 (fun h48=>?_) fun h48=>?_
  ·simp only[Bool.and_eq_true,decide_eq_true_eq] at h48
   refine J 8 ?_
   obtain⟨x,hx⟩:=ak (show k<acts.length by omega)
   have hz:=hI.sz (show k≤180 by omega)
   refine .p (.ix k rfl rfl rfl (by omega)) ?_
   refine .p (.la rfl (Cells.rd Rd.s hx)) ?_
   refine .ai rfl (ae.alloc rfl zeroValue64 rfl) ?_
   rintro _ _ ⟨b12,rfl,rfl⟩
   refine .ai rfl (ae.hD (vs:=Hp x) (by exact sizeOf64) rfl rfl rfl (by rfl)) ?_
   rintro _ _ ⟨rfl,rfl⟩
   refine JD 15 (fun h63=>?_) fun h63=>?_
   ·refine J 6 ?_
    refine .c call32 rfl (qA (l:=l) (p:=x.slot) (c:=x.choice) hz (fun t=>hI.wy (by omega) t _)) fun u70 _=>?_
    refine J 9 ?_
    refine .aw (k+1,(l.step x.slot x.choice).2.2) .auto rfl ?_ ?_ ?_ ?_
    ·show acts.length-(k+1)<acts.length-k;omega
    ·exact⟨by show k+1≤_;omega,by show k+1≤150;omega,hI.step (by omega) _ _,hK.step _ _,hP.step hK hI.sp (by omega) _ _,(nO (hI.wy (by omega)) _ _).vs.trans hvl⟩
    ·exact⟨rfl,trivial⟩
    ·exact fun w s=>aq.kept .auto w s
   ·refine JD 6 (fun h71=>?_) fun h71=>?_
    ·refine J 4 ?_
     refine .c call33 rfl (nR (l:=l) (p:=x.slot) (Nat.le_trans hz.wt (by decide))) fun _ _=>?_
     refine J 9 ?_
     refine .aw (k+1,(l.cy x.slot).2) .auto rfl ?_ ?_ ?_ ?_
     ·show acts.length-(k+1)<acts.length-k;omega
     ·exact⟨by show k+1≤_;omega,by show k+1≤150;omega,hI.cy _,hK.cy _,hP.cy hK _,(lT l _).vs.trans hvl⟩
     ·exact⟨rfl,trivial⟩
     ·exact fun w s=>aq.kept .auto w s
    ·refine JD 6 (fun h77=>?_) fun h77=>?_
     ·refine J 4 ?_
      refine .c call34 rfl (uG (l:=l) (p:=x.slot) ⟨Nat.le_trans hz.wt (by decide),Nat.le_trans hz.vl (by decide),fun y hy=>Nat.le_trans (hz.ev y hy) (by decide)⟩) fun _ _=>?_
      refine J 9 ?_
      refine .aw (k+1,(l.ck x.slot).2) .auto rfl ?_ ?_ ?_ ?_
      ·show acts.length-(k+1)<acts.length-k;omega
      ·exact⟨by show k+1≤_;omega,by show k+1≤150;omega,hI.ck _,hK.ck _,hP.ck _,(ke l _).vs.trans hvl⟩
      ·exact⟨rfl,trivial⟩
      ·exact fun w s=>aq.kept .auto w s
     ·refine JD 6 (fun h83=>?_) fun h83=>?_
      ·refine J 4 ?_
       refine .c call35 rfl (sd (l:=l) (p:=x.slot) hz) fun _ _=>?_
       refine J 9 ?_
       refine .aw (k+1,(l.preempt x.slot).2) .auto rfl ?_ ?_ ?_ ?_
       ·show acts.length-(k+1)<acts.length-k;omega
       ·exact⟨by show k+1≤_;omega,by show k+1≤150;omega,hI.preempt _,hK.preempt _,hP.preempt _,(je l _).vs.trans hvl⟩
       ·exact⟨rfl,trivial⟩
       ·exact fun w s=>aq.kept .auto w s
      ·refine JD 6 (fun h89=>?_) fun h89=>?_
       ·refine J 5 ?_
        refine .o2 (C:=aW b40 ka br l) .auto rfl ?_
        rintro vv vw -
        have hdw:=lU l.aK x.choice
        refine .c call36 rfl (xj (b:=ka) (s:=l.aK) (k:=x.choice) hz.sp) fun u95 _=>?_
        refine .cr (fun w s=>Rd.isSl (Rd.sl .auto) w s) fun hu95=>?_
        refine J 1 ?_
        refine .p (.extract (v:=.agg (mS u95 (l.aK.done x.choice).1).toArray) rfl rfl) ?_
        refine .p (.extract (v:=.int .i64 (l.aK.done x.choice).2.1) rfl rfl) ?_
        refine .ai rfl (ae.alloc rfl zeroValue66 rfl) ?_
        rintro _ _ ⟨b13,rfl,rfl⟩
        refine .ai rfl (ae.hD (vs:=mS u95 (l.aK.done x.choice).1) (by exact sizeOf66) rfl rfl (yy hu95) (by rfl)) ?_
        rintro _ _ ⟨rfl,rfl⟩
        refine J 7 ?_
        refine .c call38 rfl (mh (A:=sl au 1 u95 (l.aK.done x.choice).1.av) (Rd.sl .here) (by omega)) fun u101 _=>?_
        refine .c call37 rfl (jR (l:=({l with aK:=(l.aK.done x.choice).2.2 }:Lib)) (b:=b40) (bs:=ka) (br:=br) (A:=sl bP 3 u101 (aB (l.aK.done x.choice).1.av)) (Rd.sl .here) ⟨by rw[eD];omega,Nat.le_trans hz.wt (by decide),Nat.le_trans hz.vl (by decide),fun y hy=>Nat.le_trans (hz.ev y hy) (by decide)⟩) fun _ _=>?_
        refine J 9 ?_
        refine .aw (k+1,l.eW x.choice) .auto rfl ?_ ?_ ?_ ?_
        ·show acts.length-(k+1)<acts.length-k;omega
        ·exact⟨by show k+1≤_;omega,by show k+1≤150;omega,hI.eW _,hK.eW _,hP.eW hI.sp _,(yE _ _).trans hvl⟩
        ·exact⟨rfl,trivial⟩
        ·exact fun w s=>aq.kept .auto w s
       ·refine J 3 ?_
        refine .o2 (C:=aW b40 ka br l) .auto rfl ?_
        rintro vv vw -
        have hdu:=B7 hI.sp
        refine .c call39 rfl (xk (b:=ka) (s:=l.aK) hz.sp) fun u59 _=>?_
        refine .p (.field 0 50 underlying66 rfl isAgg50 rfl rfl) ?_
        refine .c call38 rfl (mh (A:=sl au 1 u59 l.aK.aT.due) (Rd.sl .here) (by omega)) fun u61 _=>?_
        refine .c call37 rfl (jR (l:=({l with aK:=l.aK.tick.2 }:Lib)) (b:=b40) (bs:=ka) (br:=br) (A:=sl bP 3 u61 (aB l.aK.aT.due)) (Rd.sl .here) ⟨by rw[eD];omega,Nat.le_trans hz.wt (by decide),Nat.le_trans hz.vl (by decide),fun y hy=>Nat.le_trans (hz.ev y hy) (by decide)⟩) fun _ _=>?_
        refine J 9 ?_
        refine .aw (k+1,l.cv) .auto rfl ?_ ?_ ?_ ?_
        ·show acts.length-(k+1)<acts.length-k;omega
        ·exact⟨by show k+1≤_;omega,by show k+1≤150;omega,hI.cv,hK.cv,hP.cv hI.sp,(rV hI).vs.trans hvl⟩
        ·exact⟨rfl,trivial⟩
        ·exact fun w s=>aq.kept .auto w s
  ·simp only[Bool.and_eq_false_iff,decide_eq_false_iff_not] at h48
   have hz:=hI.sz (show k≤180 by omega)
   refine J 7 ?_
   refine .ai rfl (ae.Bl (enc:=au) (k:=1) 0 16 rfl underlying50 typeInfo3 rfl rfl rfl rfl (by decide) (by decide) rfl rfl rfl rfl (by omega)) ?_
   rintro _ _ ⟨b103,rfl,rfl⟩
   rw[← IP]
   refine J 6 ?_
   refine .c call40 rfl (ng (l:=l) (Nat.le_trans hz.wt (by decide))) fun u105 _=>?_
   refine J 10 ?_
   refine .aX (X:=Nat×Value) [6,16,17,18,19,20,21,106,107,108,109,110,111,112,113,114,115,116,117,118,119,120,121,122,123,124,125,126,127,128,129,130,131,132,133,134,135,136,137,138,139,140,141,142,143,144,145,146,147,148,149,150,151,152,153,154,155,156,157,158,159,160,161,162,163,164,165,166,167,168,169,170,171,172,173,174,175,176,177,178,179,180,181] (fun z=>mk-z.1) (fun z=>z.1≤mk) (fun z=>[(17,some (.int .i64 (z.1:Int))),(16,some z.2)]) (fun z=>[sl bP 3 z.2 (cW l z.1),sl au 1 (.slice (some ⟨b103,0,none⟩) 16 16) (my (cP l z.1)),aW b40 ka br l,A,F]) (0,u105) ?_ ?_ ?_ ?_
   ·exact Nat.zero_le _
   ·exact⟨rfl,rfl,trivial⟩
   ·show ∀ w,Sat _ w _→Sat _ w (seps [sl bP 3 u105 l.waiting,sl au 1 (.slice (some ⟨b103,0,none⟩) 16 16) (my fun _=>0),aW b40 ka br l,A,F])
    exact fun w s=>aq.kept .auto w s
   rintro⟨q,w16⟩ hq
   simp only at hq
   refine JD 8 (fun h108=>?_) fun h108=>?_
   ·refine J 8 ?_
    refine .c call41 rfl (Az (l:=l) (p:=(q:Int)) (fun y hy=>Nat.le_trans (hz.ev y hy) (by decide))) fun u114 _=>?_
    refine .cr (fun w s=>Rd.isSl (Rd.sl .auto) w s) fun hu114=>?_
    refine J 1 ?_
    refine .p (.extract (v:=.agg (eA (u114,(bS l (q:Int)))).toArray) rfl rfl) ?_
    refine .p (.extract (v:=.bool (l.has (q:Int))) rfl rfl) ?_
    refine .ai rfl (ae.alloc rfl zeroValue80 rfl) ?_
    rintro _ _ ⟨b18,rfl,rfl⟩
    refine .ai rfl (ae.hD (vs:=eA (u114,(bS l (q:Int)))) (by exact sizeOf80) rfl rfl (j5 hu114) (by rfl)) ?_
    rintro _ _ ⟨rfl,rfl⟩
    refine J 3 ?_
    refine .zg (X:=Unit) [117,118,119,120,121,122,123,124,125,126,127,128,129,130,131,132,133,134,135,136,137,138,139,140,141,142,143,144,145,146] (fun _=>True) (fun _=>[]) (fun _=>[arr b18 0 (eA (u114,(bS l (q:Int)))),sl bP 3 u114 (bS l (q:Int)).evs,sl bP 3 w16 (cW l q),sl au 1 (.slice (some ⟨b103,0,none⟩) 16 16) (my fun w=>cP l q w+fo (bS l (q:Int)) w),aW b40 ka br l,A,F]) ?_ ?_
    ·refine J 6 ?_
     apply aM.eb 4 124 120 [120,121,122,123,124] rfl
     ·intro h120
      refine J 5 ?_
      refine .eu .auto rfl (by first | exact fun _ h=>h | exact aq.kept .auto)
     ·intro h120
      refine J 5 ?_
      refine .eu .auto rfl (by first | exact fun _ h=>h | exact aq.kept .auto)
     refine J 1 ?_
     apply aM.fI 14 139 125 [125,126,127,128,129,130,131,132,133,134,135,136,137,138,139] rfl
     ·intro h125
      refine J 4 ?_
      apply aM.eO 4 133 129 [129,130,131,132,133] rfl
      ·intro h129
       refine J 5 ?_
       refine .eu .auto rfl (by first | exact fun _ h=>h | exact aq.kept .auto)
      ·intro h129
       refine J 5 ?_
       refine .eu .auto rfl (by first | exact fun _ h=>h | exact aq.kept .auto)
      refine J 1 ?_
      apply aM.fA 4 138 134 [134,135,136,137,138] rfl
      ·intro h134
       refine J 5 ?_
       refine .eu .auto rfl (by first | exact fun _ h=>h | exact aq.kept .auto)
      ·intro h134
       refine J 5 ?_
       refine .eu .auto rfl (by first | exact fun _ h=>h | exact aq.kept .auto)
      refine J 2 ?_
      refine .eu .auto rfl (by first | exact fun _ h=>h | exact aq.kept .auto)
     ·intro h125
      refine J 15 ?_
      refine .eu .auto rfl (by first | exact fun _ h=>h | exact aq.kept .auto)
     refine JD 2 (fun h139=>?_) fun h139=>?_
     ·refine J 1 ?_
      simp only[Bool.and_eq_true,Bool.or_eq_true,decide_eq_true_eq] at h139
      obtain⟨⟨ht0,ht1⟩,hm⟩:=h139
      have htb:(my (cP l q))[(bS l (q:Int)).ab.toNat]?=some ((cP l q (((bS l (q:Int)).ab.toNat:Nat):Int):Nat):Int):=rq (by omega)
      have hhl:=yW hP hK (w:=(((bS l (q:Int)).ab.toNat:Nat):Int)) (by omega) (q:=q) (by omega)
      refine J 3 ?_
      refine .p (.mC (bS l (q:Int)).ab.toNat underlying50 sizeOf3 rfl rfl Rd.s (by first | omega | (dsimp only;omega)) (by rw[gV];omega)) ?_
      refine .p (.lr rfl htb) ?_
      refine .p (.add rfl rfl (by omega)) ?_
      refine .p (.mC (bS l (q:Int)).ab.toNat underlying50 sizeOf3 rfl rfl Rd.s (by first | omega | (dsimp only;omega)) (by rw[gV];omega)) ?_
      refine .ai rfl (ae.dA (x':=(((cP l q (((bS l (q:Int)).ab.toNat:Nat):Int):Nat):Int)+1)) rfl rfl sizeOf3 rfl htb (by decide) rfl .auto) ?_
      rintro _ _ ⟨rfl,rfl⟩
      refine J 1 ?_
      rw[Ku hm ht0 ht1]
      refine .jW () .auto ?_ ?_ ?_
      ·trivial
      ·trivial
      ·exact fun w s=>aq.kept .auto w s
     ·refine J 1 ?_
      rw[← Kv (f:=cP l q) (v:=(bS l (q:Int))) (fun y=>ne_true_of_eq_false h139 (by simp only[Bool.and_eq_true,Bool.or_eq_true,decide_eq_true_eq];exact y))]
      refine .jW () .auto ?_ ?_ ?_
      ·trivial
      ·trivial
      ·exact fun w s=>aq.kept .auto w s
    ·rintro⟨⟩ -
     refine J 5 ?_
     refine .ai rfl (ae.append rfl underlying75 underlying75 typeInfo87 rfl rfl rfl (by decide) rfl rfl .auto Rd.s (by have h1:=m9 hz.wt hz.ev q;have h2:=wU hz.ev (q:Int);omega) (xH _)) ?_
     rintro _ _ ⟨v150,rfl,rfl⟩
     refine J 6 ?_
     refine .c call42 rfl (Ay (l:=l) (b:=b40) (bs:=ka) (br:=br)) fun _ _=>?_
     refine .o2 (C:=aW b40 ka br l) .auto rfl ?_
     rintro pv lv -
     refine J 1 ?_
     refine .c call43 rfl (IQ (b:=br) (rs:=l.rows) (q:=q) (by have:=hP.rl;omega) ⟨hz.rl,fun r hr=>Nat.le_trans (hz.rw r hr) (by decide)⟩) fun u154 _=>?_
     have hRl:(l.rows.getD q []).length≤1000000:=by obtain⟨r,hr⟩:=ak (show q<l.rows.length by have:=hP.rl;omega);rw[aY hr];exact hz.rw r (List.mem_of_getElem? hr)
     refine J 9 ?_
     refine .aX (X:=Nat) [6,21,155,156,157,158,159,160,161,162,163,164,165,166,167,168,169,170,171,172,173,174,175,176,177,178,179,180,181] (fun j=>(l.rows.getD q []).length-j) (fun j=>j≤(l.rows.getD q []).length) (fun j=>[(21,some (.int .i64 (j:Int)))]) (fun j=>[sl au 1 u154 (l.rows.getD q []),sl bP 3 v150 (cW l q++(bS l (q:Int)).evs),sl au 1 (.slice (some ⟨b103,0,none⟩) 16 16) (my fun w=>cP l q w+fo (bS l (q:Int)) w+((l.rows.getD q []).take j).count w),aW b40 ka br l,A,F]) 0 ?_ ?_ ?_ ?_
     ·exact Nat.zero_le _
     ·exact⟨rfl,trivial⟩
     ·show ∀ w,Sat _ w _→Sat _ w (seps [sl au 1 u154 (l.rows.getD q []),sl bP 3 v150 (cW l q++(bS l (q:Int)).evs),sl au 1 (.slice (some ⟨b103,0,none⟩) 16 16) (my fun w=>cP l q w+fo (bS l (q:Int)) w),aW b40 ka br l,A,F])
      exact fun w s=>aq.kept .auto w s
     rintro k2 hk3
     refine JD 9 (fun h158=>?_) fun h158=>?_
     ·obtain⟨t,ht⟩:=ak (show k2<(l.rows.getD q []).length by omega)
      have hts:=FB hP hz.sp.lt (q:=q) (t:=t) (by have:=hP.rl;omega) (List.mem_of_getElem? ht)
      refine J 9 ?_
      refine .p (.ix k2 rfl rfl rfl (by omega)) ?_
      refine .p (.lr rfl ht) ?_
      refine J 2 ?_
      apply aM.eO 6 172 166 [166,167,168,169,170,171,172] rfl
      ·intro h166
       refine J 2 ?_
       refine .g (.ix k2 rfl rfl rfl (by omega)) ?_
       refine .g (.lr rfl ht) ?_
       refine J 3 ?_
       refine .eu .auto rfl (by first | exact fun _ h=>h | exact aq.kept .auto)
      ·intro h166
       refine J 7 ?_
       refine .eu .auto rfl (by first | exact fun _ h=>h | exact aq.kept .auto)
      refine JD 2 (fun h172=>?_) fun h172=>?_
      ·simp only[Bool.or_eq_true,decide_eq_true_eq] at h172;omega
      ·refine J 3 ?_
       have htb:(my fun w=>cP l q w+fo (bS l (q:Int)) w+((l.rows.getD q []).take k2).count w)[t.toNat]?=some (((cP l q ((t.toNat:Nat):Int)+fo (bS l (q:Int)) ((t.toNat:Nat):Int)+((l.rows.getD q []).take k2).count ((t.toNat:Nat):Int):Nat):Nat):Int):=rq (f:=fun w=>cP l q w+fo (bS l (q:Int)) w+((l.rows.getD q []).take k2).count w) (by omega)
       have hhl:=yW hP hK (w:=((t.toNat:Nat):Int)) (by omega) (q:=q) (by omega)
       have hcl:=Nat.le_trans (List.count_le_length (a:=((t.toNat:Nat):Int)) (l:=(l.rows.getD q []).take k2)) (List.length_take_le ..)
       have hrl:fo (bS l (q:Int)) ((t.toNat:Nat):Int)≤1:=by unfold fo;split <;> omega
       refine J 3 ?_
       refine .p (.ix k2 rfl rfl rfl (by omega)) ?_
       refine .p (.lr rfl ht) ?_
       refine .p (.mC t.toNat underlying50 sizeOf3 rfl rfl Rd.s (by first | omega | (dsimp only;omega)) (by rw[gV];omega)) ?_
       refine .p (.lr rfl htb) ?_
       refine .p (.add rfl rfl (by omega)) ?_
       refine .p (.mC t.toNat underlying50 sizeOf3 rfl rfl Rd.s (by first | omega | (dsimp only;omega)) (by rw[gV];omega)) ?_
       refine .ai rfl (ae.dA (x':=(((cP l q ((t.toNat:Nat):Int)+fo (bS l (q:Int)) ((t.toNat:Nat):Int)+((l.rows.getD q []).take k2).count ((t.toNat:Nat):Int):Nat):Int)+1)) rfl rfl sizeOf3 rfl htb (by decide) rfl .auto) ?_
       rintro _ _ ⟨rfl,rfl⟩
       refine J 8 ?_
       rw[Kw (g:=fun w=>cP l q w+fo (bS l (q:Int)) w) ht hts.1 hts.2]
       refine .aw (k2+1) .auto rfl ?_ ?_ ?_ ?_
       ·omega
       ·show k2+1≤_;omega
       ·exact⟨rfl,trivial⟩
       ·exact fun w s=>aq.kept .auto w s
     ·obtain rfl:k2=(l.rows.getD q []).length:=by omega
      rw[List.take_length]
      refine J 11 ?_
      refine .aw (q+1,v150) .auto rfl ?_ ?_ ?_ ?_
      ·show mk-(q+1)<mk-q;omega
      ·show q+1≤_;omega
      ·exact⟨rfl,rfl,trivial⟩
      ·show ∀ w,Sat _ w _→Sat _ w (seps [sl bP 3 v150 (cW l q++(bS l (q:Int)).evs),sl au 1 (.slice (some ⟨b103,0,none⟩) 16 16) (my fun w=>cP l q w+fo (bS l (q:Int)) w+(l.rows.getD q []).count w),aW b40 ka br l,A,F])
       exact fun w s=>aq.kept .auto w s
   ·obtain rfl:q=mk:=by omega
    have hle:=m9 hz.wt hz.ev q
    have hle2:q+1≤10:=by omega
    have hle3:=Nat.mul_le_mul_right 1000000 hle2
    refine J 12 ?_
    refine .aX (X:=Nat) [22,23,24,182,183,184,185,186,187,188,189,190,191,192,193,194,195,196,197,198,199,200,201,202,203,204,205,206,207,208,209,210,211,212,213,214,215,216,217,218,219,220,221,222,223,224,225,226,227,228,229] (fun j=>(cW l q).length-j) (fun j=>j≤(cW l q).length) (fun j=>[(22,some (.int .i64 (j:Int)))]) (fun j=>[sl bP 3 w16 (cW l q),sl au 1 (.slice (some ⟨b103,0,none⟩) 16 16) (my fun w=>cP l q w+((cW l q).take j).countP (may w)),aW b40 ka br l,A,F]) 0 ?_ ?_ ?_ ?_
    ·exact Nat.zero_le _
    ·exact⟨rfl,trivial⟩
    ·show ∀ w,Sat _ w _→Sat _ w (seps [sl bP 3 w16 (cW l q),sl au 1 (.slice (some ⟨b103,0,none⟩) 16 16) (my (cP l q)),aW b40 ka br l,A,F])
     exact fun w s=>aq.kept .auto w s
    rintro j hj
    refine JD 9 (fun h185=>?_) fun h185=>?_
    ·obtain⟨e,he⟩:=ak (show j<(cW l q).length by omega)
     refine J 8 ?_
     refine .p (.ix j rfl rfl rfl (by omega)) ?_
     refine J 1 ?_
     refine .p (.ld rfl (Cell.rd (c:=1) Rd.s he rfl)) ?_
     refine J 7 ?_
     refine .p (.ix j rfl rfl rfl (by omega)) ?_
     refine J 1 ?_
     refine .p (.ld rfl (Cell.rd (c:=2) Rd.s he rfl)) ?_
     refine J 2 ?_
     apply aM.eO 7 206 199 [199,200,201,202,203,204,205,206] rfl
     ·intro h199
      refine J 2 ?_
      refine .g (.ix j rfl rfl rfl (by omega)) ?_
      refine J 1 ?_
      refine .g (.lr rfl he) ?_
      refine J 3 ?_
      refine .eu .auto rfl (by first | exact fun _ h=>h | exact aq.kept .auto)
     ·intro h199
      refine J 8 ?_
      refine .eu .auto rfl (by first | exact fun _ h=>h | exact aq.kept .auto)
     refine J 1 ?_
     apply aM.fA 7 214 207 [207,208,209,210,211,212,213,214] rfl
     ·intro h207
      refine J 2 ?_
      refine .g (.ix j rfl rfl rfl (by omega)) ?_
      refine J 1 ?_
      refine .g (.lr rfl he) ?_
      refine J 3 ?_
      refine .eu .auto rfl (by first | exact fun _ h=>h | exact aq.kept .auto)
     ·intro h207
      refine J 8 ?_
      refine .eu .auto rfl (by first | exact fun _ h=>h | exact aq.kept .auto)
     refine J 7 ?_
     apply aM.fI 3 219 216 [216,217,218,219] rfl
     ·intro h216
      refine J 4 ?_
      refine .eu .auto rfl (by first | exact fun _ h=>h | exact aq.kept .auto)
     ·intro h216
      refine J 4 ?_
      refine .eu .auto rfl (by first | exact fun _ h=>h | exact aq.kept .auto)
     refine J 1 ?_
     apply aM.fI 3 223 220 [220,221,222,223] rfl
     ·intro h220
      refine J 4 ?_
      refine .eu .auto rfl (by first | exact fun _ h=>h | exact aq.kept .auto)
     ·intro h220
      refine J 4 ?_
      refine .eu .auto rfl (by first | exact fun _ h=>h | exact aq.kept .auto)
     refine JD 2 (fun h223=>?_) fun h223=>?_
     ·simp only[Bool.and_eq_true,Bool.or_eq_true,decide_eq_true_eq] at h223
      obtain⟨⟨hme,ht0⟩,ht1⟩:=h223
      refine J 1 ?_
      have htb:(my fun w=>cP l q w+((cW l q).take j).countP (may w))[e.ab.toNat]?=some (((cP l q ((e.ab.toNat:Nat):Int)+((cW l q).take j).countP (may ((e.ab.toNat:Nat):Int)):Nat):Nat):Int):=rq (f:=fun w=>cP l q w+((cW l q).take j).countP (may w)) (by omega)
      have hhl:=yW hP hK (w:=((e.ab.toNat:Nat):Int)) (by omega) (q:=q) (by omega)
      have hcl:=Nat.le_trans (List.countP_le_length (p:=may ((e.ab.toNat:Nat):Int)) (l:=(cW l q).take j)) (List.length_take_le ..)
      refine J 2 ?_
      refine .p (.mC e.ab.toNat underlying50 sizeOf3 rfl rfl Rd.s (by first | omega | (dsimp only;omega)) (by rw[gV];omega)) ?_
      refine .p (.lr rfl htb) ?_
      refine .p (.add rfl rfl (by omega)) ?_
      refine .p (.mC e.ab.toNat underlying50 sizeOf3 rfl rfl Rd.s (by first | omega | (dsimp only;omega)) (by rw[gV];omega)) ?_
      refine .ai rfl (ae.dA (x':=(((cP l q ((e.ab.toNat:Nat):Int)+((cW l q).take j).countP (may ((e.ab.toNat:Nat):Int)):Nat):Int)+1)) rfl rfl sizeOf3 rfl htb (by decide) rfl .auto) ?_
      rintro _ _ ⟨rfl,rfl⟩
      refine J 8 ?_
      rw[Ml (g:=cP l q) he hme ht0 ht1]
      refine .aw (j+1) .auto rfl ?_ ?_ ?_ ?_
      ·omega
      ·show j+1≤_;omega
      ·exact⟨rfl,trivial⟩
      ·exact fun w s=>aq.kept .auto w s
     ·refine J 8 ?_
      rw[Kx (g:=cP l q) he (fun y=>ne_true_of_eq_false h223 (by simp only[Bool.and_eq_true,Bool.or_eq_true,decide_eq_true_eq];exact y))]
      refine .aw (j+1) .auto rfl ?_ ?_ ?_ ?_
      ·omega
      ·show j+1≤_;omega
      ·exact⟨rfl,trivial⟩
      ·exact fun w s=>aq.kept .auto w s
    ·obtain rfl:j=(cW l q).length:=by omega
     rw[List.take_length,Ky hP hK hvl]
     have hrle:l.aK.ready.length≤1000000000:=by have:=fi l.aK.aF 0;have:=hz.sp.lt;show(readyFrom l.aK.aF 0).length≤_;omega
     refine J 8 ?_
     refine .o2 (C:=aW b40 ka br l) .auto rfl ?_
     rintro pv lv -
     refine .o1 (C:=eT ka l.aK) .auto rfl ?_
     rintro pt2 -
     refine .c call44 rfl (iq (s:=l.aK) hz.sp.lt) fun u231 _=>?_
     refine J 10 ?_
     refine .aX (X:=Nat) [6,26,232,233,234,235,236,237,238,239,240,241,242,243,244,245,246,247,248,249,250,251,252,253,254,255,256,257,258] (fun j=>16-j) (fun j=>j≤16) (fun j=>[(26,some (.int .i64 (j:Int)))]) (fun j=>[sl au 1 u231 l.aK.ready,sl au 1 (.slice (some ⟨b103,0,none⟩) 16 16) (my (cS l.aK)),A,F]) 0 ?_ ?_ ?_ ?_
     ·exact Nat.zero_le _
     ·exact⟨rfl,trivial⟩
     ·exact fun w s=>aq.kept .auto w s
     rintro j hj2
     refine JD 7 (fun h233=>?_) fun h233=>?_
     ·have htr:(my (cS l.aK))[j]?=some ((cS l.aK (j:Int):Nat):Int):=rq (by omega)
      refine J 8 ?_
      refine .c call45 rfl (Cu (A:=sl au 1 u231 l.aK.ready) (n:=(j:Int)) (Rd.sl .here) hrle) fun _ _=>?_
      refine J 1 ?_
      apply aM.eb 6 245 239 [239,240,241,242,243,244,245] rfl
      ·intro h239
       refine J 2 ?_
       refine .g (.ix j rfl rfl rfl (by rw[gV];omega)) ?_
       refine .g (.lr rfl htr) ?_
       refine J 3 ?_
       refine .eu .auto rfl (by first | exact fun _ h=>h | exact aq.kept .auto)
      ·intro h239
       refine J 7 ?_
       refine .eu .auto rfl (by first | exact fun _ h=>h | exact aq.kept .auto)
      refine J 1 ?_
      apply aM.fA 12 258 246 [246,247,248,249,250,251,252,253,254,255,256,257,258] rfl
      ·intro h246
       refine J 2 ?_
       refine .cg call45 rfl (Cu (A:=sl au 1 u231 l.aK.ready) (n:=(j:Int)) (Rd.sl .here) hrle) fun _ _=>?_
       refine J 2 ?_
       apply aM.eb 6 257 251 [251,252,253,254,255,256,257] rfl
       ·intro h251
        refine J 2 ?_
        refine .g (.ix j rfl rfl rfl (by rw[gV];omega)) ?_
        refine .g (.lr rfl htr) ?_
        refine J 3 ?_
        refine .eu .auto rfl (by first | exact fun _ h=>h | exact aq.kept .auto)
       ·intro h251
        refine J 7 ?_
        refine .eu .auto rfl (by first | exact fun _ h=>h | exact aq.kept .auto)
       refine J 2 ?_
       refine .eu .auto rfl (by first | exact fun _ h=>h | exact aq.kept .auto)
      ·intro h246
       refine J 13 ?_
       refine .eu .auto rfl (by first | exact fun _ h=>h | exact aq.kept .auto)
      refine JD 2 (fun h258=>?_) fun h258=>?_
      ·simp only[Bool.or_eq_true,Bool.and_eq_true,decide_eq_true_eq] at h258
       rcases h258 with ⟨h,h2⟩ | ⟨h,h2⟩
       ·have:=mem_ready.1 h;omega
       ·have:=kL.1 h;omega
      ·refine J 8 ?_
       refine .aw (j+1) .auto rfl ?_ ?_ ?_ ?_
       ·omega
       ·show j+1≤_;omega
       ·exact⟨rfl,trivial⟩
       ·exact fun w s=>aq.kept .auto w s
     ·refine J 7 ?_
      refine .c call30 rfl se fun _ _=>?_
      exact JR 4 ()
end Go.SLYthlllpngkljgfaaGreat
