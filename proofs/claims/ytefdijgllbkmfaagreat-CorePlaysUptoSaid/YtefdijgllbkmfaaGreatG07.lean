/- Walks of functions, and what they compute. Conditions: none, this text proves no statement. -/
import Derived.Test.YtefdijgllbkmfaaGreatG06
import Derived.Test.YtefdijgllbkmfaaGreatProg
import Derived.KernelRfl
set_option maxRecDepth 20000
set_option maxHeartbeats 4000000
namespace Go.SLYtefdijgllbkmfaaGreat
open Go Go.RowKit Go.Proofs Go.Proofs.Tryz
attribute [local irreducible] ax aP bA cp bF Y
theorem vQ{W:World}{ba b:Nat}{v:RV}{a:RA}{x:Int}(hn:a.n<16)(hT:fM a.s)(hl:a.late.length≤500000)(hw:a.e.aC.length≤500000):Fn Tryz.prog W 89 [ptr ba,.int .u64 x] [cy ba b v a] Unit (fun _=>.tuple #[]) (fun _=>True) (fun _=>[cy ba b v (a.fin x)]):=by
 refine Fn.intro (N:=75) func89 rfl ntmps89 rfl fun F=>?_
 show ax _ _ _ _ _ _ [cy ba b v a,F]
 refine .o2 (C:=cy ba b v (a)) .auto rfl ?_
 rintro vw vl -
 refine .fr (A:=bP b v (a).s) .auto bu ?_
 refine J 7 ?_
 rw[B9]
 refine J 3 ?_
 refine .draw [arr ba 0 (kX b (a.ending) vw vl),arr b 24 (dj (a.s).thr)] [0,0,0,0,0,0,0,0,0,0,0,0,2,3] rfl (by kernel_rfl) ?_
 refine J 10 ?_
 refine .q (.aE _ underlying54 sizeOf53 rfl rfl rfl (by first | omega | exact hn | decide)) ?_
 refine .q (.la rfl (Cells.t (by first | omega | exact hn))) ?_
 refine .d2 rfl Kept.auto (af.alloc rfl zeroValue53 rfl) (by rintro _ _ ⟨b4,rfl,rfl⟩;exact Kept.auto) ?_
 rintro _ _ ⟨b4,rfl,rfl⟩
 refine .d3 rfl (af.sY (by exact sizeOf53) rfl rfl rfl (by rfl)) ?_
 rintro _ _ ⟨rfl,rfl⟩
 refine J 9 ?_
 apply aP.fY 4 28 24 [24,25,26,27,28] rfl
 ·intro h24
  exact JS 5
 ·intro h24
  exact JS 5
 refine JD 2 (fun h28=>?_) fun h28=>?_
 ·simp only[Bool.and_eq_true,decide_eq_true_eq,Bool.not_eq_true'] at h28
  have h28:a.t.oX=false∧a.t.au=0:=h28
  refine J 1 ?_
  refine .draw [arr ba 0 (kX b (a.ending) vw vl)] [1,1,1,1,1,1,1,1,1,1,1,1,3] rfl (by kernel_rfl) ?_
  refine J 10 ?_
  refine .p (.aE _ underlying54 sizeOf53 rfl rfl rfl (by first | omega | exact hn | decide)) ?_
  refine J 1 ?_
  refine .d3 rfl (af.Gw sizeOf3 rfl rfl (by first | omega | exact hn)) ?_
  rintro _ _ ⟨rfl,rfl⟩
  refine J 3 ?_
  refine .draw [arr ba 0 (kX b (a.ending) vw vl)] [1,1,1,1,1,1,1,1,1,1,1,1,1,3] rfl (by kernel_rfl) ?_
  refine J 11 ?_
  refine .p (.aE _ underlying54 sizeOf53 rfl rfl rfl (by first | omega | exact hn | decide)) ?_
  refine J 1 ?_
  refine .d3 rfl (af.KT sizeOf38 rfl rfl (by first | omega | exact hn)) ?_
  rintro _ _ ⟨rfl,rfl⟩
  refine J 4 ?_
  rw[show a.fin x=a.ending.aj {a.t with why:=9,value:=x } from by unfold RA.fin;rw[if_pos h28]]
  simp only[dz,oK]
  exact JR 0 ()
 ·simp only[Bool.and_eq_false_iff,decide_eq_false_iff_not,Bool.not_eq_false'] at h28
  have hn28:¬(a.t.oX=false∧a.t.au=0):=fun⟨e1,e2⟩=>by
   rcases h28 with h | h
   ·exact absurd ((show a.t.oX=true from h).symm.trans e1) (by decide)
   ·exact h e2
  refine JD 10 (fun h56=>?_) fun h56=>?_
  ·have h56:a.t.oX=false:=by have h:=h56;simp only[Bool.not_eq_true'] at h;exact h
   refine J 1 ?_
   have hj:=(hT a.n).j
   have hj0:¬(a.s.thr a.n).au=0:=fun e=>hn28 ⟨h56,e⟩
   obtain⟨j,hjj⟩:∃ j:Nat,(a.s.thr a.n).au=(j:Int)+1:=⟨((a.s.thr a.n).au - 1).toNat,by omega⟩
   refine J 3 ?_
   refine .p (.dC (Y.sub rfl rfl (by have hj2:0≤(a.s.thr a.ending.n).au∧(a.s.thr a.ending.n).au≤16:=hj;omega)) (show(a.s.thr a.ending.n).au-1=(j:Int) from by have e:(a.s.thr a.ending.n).au=(j:Int)+1:=hjj;omega)) ?_
   refine J 1 ?_
   refine .c call126 rfl (jl (a:=a.ending) (n:=j) (by omega) (hT j).i (by show a.late.length≤_;omega) (by show a.e.aC.length≤_;omega)) fun _ _=>?_
   refine .o2 (C:=cy ba b v (a.ending.free j x)) .auto rfl ?_
   rintro vw vl -
   refine .fr (A:=bP b v (a.ending.free j x).s) .auto bu ?_
   refine J 2 ?_
   refine .draw [arr ba 0 (kX b (a.ending.free j x) vw vl)] [1,1,1,1,1,1,1,1,1,1,1,1,3] rfl (by kernel_rfl) ?_
   refine J 10 ?_
   refine .p (.aE _ underlying54 sizeOf53 rfl rfl rfl (by first | omega | exact hn | decide)) ?_
   refine J 1 ?_
   refine .d3 rfl (af.AO sizeOf4 rfl rfl (by first | omega | exact hn)) ?_
   rintro _ _ ⟨rfl,rfl⟩
   refine J 1 ?_
   rw[show a.fin x=(a.ending.free j x).rZ from by unfold RA.fin;rw[if_neg hn28,if_pos h56,show a.t.au=(j:Int)+1 from hjj,show((j:Int)+1-1).toNat=j from by omega]]
   exact JR 0 ()
  ·have h56:¬a.t.oX=false:=by have h:=h56;simp only[Bool.not_eq_false'] at h;exact fun e=>by rw[show a.t.oX=true from h] at e;cases e
   refine J 2 ?_
   refine .draw [arr ba 0 (kX b (a.ending) vw vl)] [1,1,1,1,1,1,1,1,1,1,1,1,3] rfl (by kernel_rfl) ?_
   refine J 10 ?_
   refine .p (.aE _ underlying54 sizeOf53 rfl rfl rfl (by first | omega | exact hn | decide)) ?_
   refine J 1 ?_
   refine .d3 rfl (af.AO sizeOf4 rfl rfl (by first | omega | exact hn)) ?_
   rintro _ _ ⟨rfl,rfl⟩
   refine J 1 ?_
   rw[show a.fin x=a.ending.rZ from by unfold RA.fin;rw[if_neg hn28,if_neg h56]]
   exact JR 0 ()
theorem tO{W:World}{ba b:Nat}{v:RV}{a:RA}{x y:Int}(hn:a.n<16)(hT:fM a.s)(hl:a.late.length≤500000)(hw:a.e.aC.length≤500000)(hr:a.s.av.length≤900000000)(hp:1≤(a.s.thr a.n).pc):Fn Tryz.prog W 127 [ptr ba,.int .u64 x,.int .u64 y] [cy ba b v a] Unit (fun _=>.tuple #[]) (fun _=>True) (fun _=>[cy ba b v (a.fault x y)]):=by
 refine Fn.intro (N:=30) func127 rfl ntmps127 rfl fun F=>?_
 show ax _ _ _ _ _ _ [cy ba b v a,F]
 refine .o2 (C:=cy ba b v (a)) .auto rfl ?_
 rintro vw vl -
 refine .fr (A:=bP b v (a).s) .auto bu ?_
 have hpc:=(hT a.n).p
 refine J 1 ?_
 refine .draw [] [1,1,1,1,1,1,1,1,1,1,1,1,1,1,1,1,1,1,3] rfl (by kernel_rfl) ?_
 refine J 10 ?_
 refine .p (.aE _ underlying54 sizeOf53 rfl rfl rfl (by first | omega | exact hn | decide)) ?_
 refine J 1 ?_
 refine .p (.ld rfl (Cell.t (by first | omega | exact hn) rfl)) ?_
 refine J 3 ?_
 refine .p (.aE _ underlying54 sizeOf53 rfl rfl rfl (by first | omega | exact hn | decide)) ?_
 refine J 1 ?_
 refine .d3 rfl (af.JW sizeOf3 rfl rfl (by first | omega | exact hn)) ?_
 rintro _ _ ⟨rfl,rfl⟩
 refine J 7 ?_
 refine .c call88 rfl (kY (a:=(a.aj {a.t with pc:=a.t.pc-1 })) hn (by show a.s.av.length≤_;omega)) fun _ _=>?_
 refine J 4 ?_
 refine .c call89 rfl (vQ (a:=((a.aj {a.t with pc:=a.t.pc-1 }).say x y 6 true)) hn (hT.dP (n:=a.n) (t:={a.t with pc:=a.t.pc-1 }) rfl ⟨(hT a.n).r,(hT a.n).i,(hT a.n).j,by show 0≤(a.s.thr a.n).pc-1∧(a.s.thr a.n).pc-1≤_;omega,(hT a.n).v⟩) hl hw) fun _ _=>?_
 exact JR 1 ()
theorem Ca{W:World}{ba b:Nat}{v:RV}{a:RA}(hn:a.n<16)(hT:fM a.s)(hl:a.late.length≤500000)(hw:a.e.aC.length≤500000)(hr:a.s.av.length≤900000000)(hI:ja a.i)(hp:(a.s.thr a.n).pc≤900000)(hm:a.s.mem.length≤1000000):Fn Tryz.prog W 90 [ptr ba] [cy ba b v a] Unit (fun _=>.tuple #[]) (fun _=>True) (fun _=>[cy ba b v (a.plain)]):=by
 refine Fn.intro (N:=158) func90 rfl ntmps90 rfl fun F=>?_
 show ax _ _ _ _ _ _ [cy ba b v a,F]
 refine .o2 (C:=cy ba b v (a)) .auto rfl ?_
 rintro vw vl -
 refine .fr (A:=bP b v (a).s) .auto bu ?_
 have hIa:=hI.a
 have hIb:=hI.b
 have hIc:=hI.c
 have hIn:=hI.n
 have hpc:=(hT a.n).p
 have hx:=(hT a.n).r a.i.a.toNat
 have hy:=(hT a.n).r a.i.b.toNat
 have hz:=(hT a.n).r a.i.c.toNat
 refine J 1 ?_
 refine .draw [arr ba 0 (kX b (a) vw vl)] [0,0,0,0,0,0,0,0,2,1,3] rfl (by kernel_rfl) ?_
 refine J 7 ?_
 refine .q (.la rfl (Cells.iE (ds:=dq a.i) (Cells.a (cs:=kX b a vw vl)) rfl)) ?_
 refine .d2 rfl Kept.auto (af.alloc rfl zeroValue131 rfl) (by rintro _ _ ⟨b3,rfl,rfl⟩;exact Kept.auto) ?_
 rintro _ _ ⟨b3,rfl,rfl⟩
 refine J 1 ?_
 refine .d3 rfl (af.sY (by exact sizeOf131) rfl rfl rfl (by rfl)) ?_
 rintro _ _ ⟨rfl,rfl⟩
 refine J 3 ?_
 refine .draw [] [1,1,1,1,1,1,1,1,1] rfl (by kernel_rfl) ?_
 refine J 7 ?_
 refine .p (.aE _ underlying54 sizeOf53 rfl rfl rfl (by first | omega | exact hn | decide)) ?_
 refine J 4 ?_
 refine .draw [] [1,1,1,1,1,1,1,1,1,1,1,1,1,1,1,1] rfl (by kernel_rfl) ?_
 refine J 5 ?_
 refine .p (.aE a.i.a.toNat underlying39 sizeOf38 rfl rfl (by omega) (by omega)) ?_
 refine .p (.ld rfl (Cell.tr (by first | omega | exact hn) (by omega))) ?_
 refine J 5 ?_
 refine .p (.aE a.i.b.toNat underlying39 sizeOf38 rfl rfl (by omega) (by omega)) ?_
 refine .p (.ld rfl (Cell.tr (by first | omega | exact hn) (by omega))) ?_
 refine J 9 ?_
 refine .p (.ld rfl (Cell.t (by first | omega | exact hn) rfl)) ?_
 refine .p (.add rfl rfl (by omega)) ?_
 refine J 2 ?_
 refine .aw rfl (af.JW sizeOf3 rfl rfl (by first | omega | exact hn)) ?_
 rintro _ _ ⟨rfl,rfl⟩
 refine JD 15 (fun h69=>?_) fun h69=>?_
 ·refine .draw [] [1,1,1,1,1,1,1,1,3] rfl (by kernel_rfl) ?_
  refine J 7 ?_
  refine .p (.aE a.i.a.toNat underlying39 sizeOf38 rfl rfl (by omega) (by omega)) ?_
  refine .d3 rfl (af.qC sizeOf38 rfl rfl (by first | omega | exact hn) (by first | omega | decide)) ?_
  rintro _ _ ⟨rfl,rfl⟩
  refine J 2 ?_
  rw[show a.plain=(a.aj {a.t with pc:=a.t.pc+1 }).aj ((a.aj {a.t with pc:=a.t.pc+1 }).t.put a.i.a a.i.n) from by unfold RA.plain;exact if_pos h69]
  exact JR 0 ()
 ·refine JD 6 (fun h79=>?_) fun h79=>?_
  ·refine J 4 ?_
   have hIj:=hI.j (.inl h79)
   refine .p (.gq underlying38 underlying3 rfl (by omega)) ?_
   refine J 2 ?_
   refine .aw rfl (af.JW sizeOf3 rfl rfl (by first | omega | exact hn)) ?_
   rintro _ _ ⟨rfl,rfl⟩
   refine J 2 ?_
   rw[show a.plain=(a.aj {a.t with pc:=a.t.pc+1 }).aj {(a.aj {a.t with pc:=a.t.pc+1 }).t with pc:=a.i.n } from by unfold RA.plain;exact(if_neg h69).trans (if_pos h79)]
   exact JR 0 ()
  ·refine JD 6 (fun h87=>?_) fun h87=>?_
   ·refine JD 6 (fun h90=>?_) fun h90=>?_
    ·refine J 4 ?_
     have hIj:=hI.j (.inr h87)
     refine .p (.gq underlying38 underlying3 rfl (by omega)) ?_
     refine J 2 ?_
     refine .aw rfl (af.JW sizeOf3 rfl rfl (by first | omega | exact hn)) ?_
     rintro _ _ ⟨rfl,rfl⟩
     refine J 2 ?_
     rw[show a.plain=(a.aj {a.t with pc:=a.t.pc+1 }).aj {(a.aj {a.t with pc:=a.t.pc+1 }).t with pc:=a.i.n } from by unfold RA.plain;exact(if_neg h69).trans ((if_neg h79).trans (if_pos h87|>.trans (if_pos h90)))]
     exact JR 0 ()
    ·refine J 2 ?_
     rw[show a.plain=(a.aj {a.t with pc:=a.t.pc+1 }) from by unfold RA.plain;exact(if_neg h69).trans ((if_neg h79).trans (if_pos h87|>.trans (if_neg h90)))]
     exact JR 0 ()
   ·refine JD 6 (fun h97=>?_) fun h97=>?_
    ·refine J 6 ?_
     refine .o1 (C:=iM bM 1 b 312 a.s.mem) .auto rfl ?_
     rintro vm -
     refine J 3 ?_
     refine .p (.fW underlying3 underlying38 rfl (by omega)) ?_
     refine JD 3 (fun h106=>?_) fun h106=>?_
     ·refine J 4 ?_
      refine .c call127 rfl (tO (a:=(a.aj {a.t with pc:=a.t.pc+1 })) (x:=((a.s.thr a.n).aq a.i.b.toNat)) (y:=0) hn (hT.dP (n:=a.n) (t:={a.t with pc:=a.t.pc+1 }) rfl ⟨(hT a.n).r,(hT a.n).i,(hT a.n).j,by show 0≤(a.s.thr a.n).pc+1∧(a.s.thr a.n).pc+1≤_;omega,(hT a.n).v⟩) hl hw (by show a.s.av.length≤_;omega) (by rw[show((a.aj {a.t with pc:=a.t.pc+1 }).s.thr (a.aj {a.t with pc:=a.t.pc+1 }).n) = {a.t with pc:=a.t.pc+1 } from dz];show 1≤(a.s.thr a.n).pc+1;omega)) fun _ _=>?_
      refine J 5 ?_
      rw[show a.plain=(a.aj {a.t with pc:=a.t.pc+1 }).fault ((a.s.thr a.n).aq a.i.b.toNat) 0 from by unfold RA.plain;exact(if_neg h69).trans ((if_neg h79).trans ((if_neg h87).trans (if_pos h97|>.trans (if_pos h106))))]
      exact JR 0 ()
     ·refine J 3 ?_
      refine .draw [] [1,1,1,1,1,1,1,1,1,1,1,1,1,3] rfl (by kernel_rfl) ?_
      refine J 8 ?_
      refine .p (.iu ((a.s.thr a.n).aq a.i.b.toNat).toNat underlying55 sizeOf38 rfl rfl Rd.s (by omega) (by omega)) ?_
      refine .p (.ld rfl (Cell.yn Rd.s (getD_some (d:=(0:Int)) (show((a.s.thr a.n).aq a.i.b.toNat).toNat<a.s.mem.length by omega)) (by rfl))) ?_
      refine J 2 ?_
      refine .p (.aE a.i.a.toNat underlying39 sizeOf38 rfl rfl (by omega) (by omega)) ?_
      refine .d3 rfl (af.qC sizeOf38 rfl rfl (by first | omega | exact hn) (by first | omega | decide)) ?_
      rintro _ _ ⟨rfl,rfl⟩
      refine J 10 ?_
      refine .p (.iu ((a.s.thr a.n).aq a.i.b.toNat).toNat underlying55 sizeOf38 rfl rfl Rd.s (by omega) (by omega)) ?_
      refine .p (.ld rfl (Cell.yn Rd.s (getD_some (d:=(0:Int)) (show((a.s.thr a.n).aq a.i.b.toNat).toNat<a.s.mem.length by omega)) (by rfl))) ?_
      refine .c call88 rfl (kY (a:=((a.aj {a.t with pc:=a.t.pc+1 }).aj ((a.aj {a.t with pc:=a.t.pc+1 }).t.put a.i.a (a.s.mem.getD ((a.s.thr a.n).aq a.i.b.toNat).toNat 0)))) (x:=((a.s.thr a.n).aq a.i.b.toNat)) (y:=(a.s.mem.getD ((a.s.thr a.n).aq a.i.b.toNat).toNat 0)) (e:=0) (fin:=true) hn (by show a.s.av.length≤_;omega)) fun _ _=>?_
      refine J 2 ?_
      rw[show a.plain=((a.aj {a.t with pc:=a.t.pc+1 }).aj ((a.aj {a.t with pc:=a.t.pc+1 }).t.put a.i.a (a.s.mem.getD ((a.s.thr a.n).aq a.i.b.toNat).toNat 0))).say ((a.s.thr a.n).aq a.i.b.toNat) (a.s.mem.getD ((a.s.thr a.n).aq a.i.b.toNat).toNat 0) 0 true from by unfold RA.plain;exact(if_neg h69).trans ((if_neg h79).trans ((if_neg h87).trans (if_pos h97|>.trans (if_neg h106))))]
      exact JR 0 ()
    ·refine JD 6 (fun h133=>?_) fun h133=>?_
     ·refine J 6 ?_
      refine .o1 (C:=iM bM 1 b 312 a.s.mem) .auto rfl ?_
      rintro vm -
      refine J 3 ?_
      refine .p (.fW underlying3 underlying38 rfl (by omega)) ?_
      refine JD 3 (fun h142=>?_) fun h142=>?_
      ·refine J 5 ?_
       refine .c call127 rfl (tO (a:=(a.aj {a.t with pc:=a.t.pc+1 })) (x:=((a.s.thr a.n).aq a.i.a.toNat)) (y:=((a.s.thr a.n).aq a.i.b.toNat)) hn (hT.dP (n:=a.n) (t:={a.t with pc:=a.t.pc+1 }) rfl ⟨(hT a.n).r,(hT a.n).i,(hT a.n).j,by show 0≤(a.s.thr a.n).pc+1∧(a.s.thr a.n).pc+1≤_;omega,(hT a.n).v⟩) hl hw (by show a.s.av.length≤_;omega) (by rw[show((a.aj {a.t with pc:=a.t.pc+1 }).s.thr (a.aj {a.t with pc:=a.t.pc+1 }).n) = {a.t with pc:=a.t.pc+1 } from dz];show 1≤(a.s.thr a.n).pc+1;omega)) fun _ _=>?_
       refine J 5 ?_
       rw[show a.plain=(a.aj {a.t with pc:=a.t.pc+1 }).fault ((a.s.thr a.n).aq a.i.a.toNat) ((a.s.thr a.n).aq a.i.b.toNat) from by unfold RA.plain;exact(if_neg h69).trans ((if_neg h79).trans ((if_neg h87).trans ((if_neg h97).trans (if_pos h133|>.trans (if_pos h142)))))]
       exact JR 0 ()
      ·refine J 10 ?_
       refine .p (.iu ((a.s.thr a.n).aq a.i.a.toNat).toNat underlying55 sizeOf38 rfl rfl Rd.s (by omega) (by omega)) ?_
       refine .aw rfl (af.gC (x':=((a.s.thr a.n).aq a.i.b.toNat)) rfl rfl sizeOf38 rfl (getD_some (d:=(0:Int)) (show((a.s.thr a.n).aq a.i.a.toNat).toNat<a.s.mem.length by omega)) (by decide) rfl .auto) ?_
       rintro _ _ ⟨rfl,rfl⟩
       refine J 6 ?_
       refine .c call88 rfl (kY (a:=({(a.aj {a.t with pc:=a.t.pc+1 }) with s:={(a.aj {a.t with pc:=a.t.pc+1 }).s with mem:=a.s.mem.set ((a.s.thr a.n).aq a.i.a.toNat).toNat ((a.s.thr a.n).aq a.i.b.toNat) } }:RA)) (x:=((a.s.thr a.n).aq a.i.a.toNat)) (y:=((a.s.thr a.n).aq a.i.b.toNat)) (e:=0) (fin:=true) hn (by show a.s.av.length≤_;omega)) fun _ _=>?_
       refine J 2 ?_
       rw[show a.plain=({(a.aj {a.t with pc:=a.t.pc+1 }) with s:={(a.aj {a.t with pc:=a.t.pc+1 }).s with mem:=a.s.mem.set ((a.s.thr a.n).aq a.i.a.toNat).toNat ((a.s.thr a.n).aq a.i.b.toNat) } }:RA).say ((a.s.thr a.n).aq a.i.a.toNat) ((a.s.thr a.n).aq a.i.b.toNat) 0 true from by unfold RA.plain;exact(if_neg h69).trans ((if_neg h79).trans ((if_neg h87).trans ((if_neg h97).trans (if_pos h133|>.trans (if_neg h142)))))]
       exact JR 0 ()
     ·refine J 1 ?_
      refine .draw [] [1,1,1,1,1,1,1,1,1,1,3,1,1,1,1,1] rfl (by kernel_rfl) ?_
      refine J 8 ?_
      refine .p (.aE a.i.c.toNat underlying39 sizeOf38 rfl rfl (by omega) (by omega)) ?_
      refine .p (.dC (Y.load isAgg38 rfl (Cell.tr (f:=(a.aj {a.t with pc:=a.t.pc+1 }).s.thr) hn (by omega))) (show _=(a.s.thr a.n).aq a.i.c.toNat by rw[show(a.aj {a.t with pc:=a.t.pc+1 }).s.thr a.n = {a.t with pc:=a.t.pc+1 } from dz];rfl)) ?_
      refine .c call128 rfl (B6 (op:=a.i.op) (a:=((a.s.thr a.n).aq a.i.b.toNat)) (b:=(a.s.thr a.n).aq a.i.c.toNat) (by omega) (by omega)) fun y59 _=>?_
      refine J 1 ?_
      refine .p (.extract (v:=.int .u64 (aI a.i.op ((a.s.thr a.n).aq a.i.b.toNat) ((a.s.thr a.n).aq a.i.c.toNat))) rfl rfl) ?_
      refine .p (.extract (v:=.bool y59) rfl rfl) ?_
      refine J 4 ?_
      refine .draw [] [1,1,1,1,1,1,1,3] rfl (by kernel_rfl) ?_
      refine J 6 ?_
      refine .p (.aE a.i.a.toNat underlying39 sizeOf38 rfl rfl (by omega) (by omega)) ?_
      refine .d3 rfl (af.qC sizeOf38 rfl rfl (by first | omega | exact hn) (by first | omega | decide)) ?_
      rintro _ _ ⟨rfl,rfl⟩
      refine J 2 ?_
      rw[show a.plain=(a.aj {a.t with pc:=a.t.pc+1 }).aj ((a.aj {a.t with pc:=a.t.pc+1 }).t.put a.i.a (aI a.i.op ((a.s.thr a.n).aq a.i.b.toNat) ((a.aj {a.t with pc:=a.t.pc+1 }).t.eR a.i.c))) from by unfold RA.plain;exact(if_neg h69).trans ((if_neg h79).trans ((if_neg h87).trans ((if_neg h97).trans (if_neg h133)))),show(a.aj {a.t with pc:=a.t.pc+1 }).t.eR a.i.c=(a.s.thr a.n).aq a.i.c.toNat from by rw[show(a.aj {a.t with pc:=a.t.pc+1 }).t = {a.t with pc:=a.t.pc+1 } from dz];rfl]
      exact JR 0 ()
theorem tP{W:World}{ba b:Nat}{v:RV}{a:RA}{h:Int}(_hn:a.n<16):Fn Tryz.prog W 131 [ptr ba,.int .u64 h] [cy ba b v a] Unit (fun _=>.tuple #[.int .i64 (a.other h).1,.int .i64 (a.other h).2]) (fun _=>True) (fun _=>[cy ba b v a]):=by
 refine Fn.intro (N:=46) func131 rfl ntmps131 rfl fun F=>?_
 show ax _ _ _ _ _ _ [cy ba b v a,F]
 refine J 13 ?_
 refine .df (X:=Nat) [4,5,6,7,8,9,10,11,12,13,14,15,16,17,18,19,20,21,22,23,24,25,26,27,28,29,30,31,32,33,34,35,36,37,38,39,40,41,42,43,44,45] (fun n=>16-n) (fun n=>n≤16∧cx a.s.thr a.n h (16-n) n=cx a.s.thr a.n h 16 0) (fun n=>[(6,some (.int .i64 (n:Int)))]) (fun n=>[cy ba b v a,F]) 0 ?_ ?_ ?_ ?_
 ·exact⟨Nat.zero_le _,rfl⟩
 ·exact⟨rfl,trivial⟩
 ·exact fun w s=>aM.kept .auto w s
 rintro k ⟨hk,hf⟩
 refine .o2 (C:=cy ba b v (a)) .auto rfl ?_
 rintro vw vl -
 refine .fr (A:=bP b v (a).s) .auto bu ?_
 refine JD 7 (fun h9=>?_) fun h9=>?_
 ·have hst:cx a.s.thr a.n h (16-k) k=cx a.s.thr a.n h ((15-k)+1) k:=by rw[show 16-k=(15-k)+1 from by omega]
  refine J 13 ?_
  refine .p (.aE _ underlying54 sizeOf53 rfl rfl rfl (by first | omega | exact hn | decide)) ?_
  refine .p (.la rfl (Cells.t (by first | omega | exact hn))) ?_
  refine .aw rfl (af.alloc rfl zeroValue53 rfl) ?_
  rintro _ _ ⟨b7,rfl,rfl⟩
  refine J 10 ?_
  apply aP.fZ 5 29 24 [24,25,26,27,28,29] rfl
  ·intro h24
   exact JS 6
  ·intro h24
   exact JS 6
  refine J 1 ?_
  apply aP.fZ 7 37 30 [30,31,32,33,34,35,36,37] rfl
  ·intro h30
   exact JS 8
  ·intro h30
   exact JS 8
  refine J 1 ?_
  apply aP.fZ 3 41 38 [38,39,40,41] rfl
  ·intro h38
   exact JS 4
  ·intro h38
   exact JS 4
  refine JD 2 (fun h41=>?_) fun h41=>?_
  ·simp only[Bool.or_eq_true,decide_eq_true_eq,Bool.not_eq_true'] at h41
   refine J 9 ?_
   refine .bB (k+1) .auto rfl ?_ ?_ ?_ ?_
   ·omega
   ·refine⟨by show k+1≤_;omega,?_⟩
    show cx a.s.thr a.n h (16-(k+1)) (k+1)=_
    rw[← hf,hst,cx,show 16-(k+1)=15-k from by omega]
    exact(if_pos (by rcases h41 with ((e | e) | e) | e;exact .inl e;exact .inr (.inl e);exact .inr (.inr (.inl (by omega)));exact .inr (.inr (.inr e)))).symm
   ·exact⟨rfl,trivial⟩
   ·exact fun w s=>aM.kept .auto w s
  ·simp only[Bool.or_eq_false_iff,decide_eq_false_iff_not,Bool.not_eq_false'] at h41
   have hc:¬((a.s.thr k).used=false∨¬(a.s.thr k).handle=h∨k=a.n∨(a.s.thr k).oX=true):=by
    obtain⟨⟨⟨e1,e2⟩,e3⟩,e4⟩:=h41
    rintro(e | e | e | e)
    ·rw[e] at e1;cases e1
    ·exact e (by simpa using e2)
    ·omega
    ·rw[e] at e4;cases e4
   refine JD 10 (fun h44=>?_) fun h44=>?_
   ·refine J 13 ?_
    refine .eE rfl rfl rfl fun w s=>⟨(),?_,trivial,ar .auto s⟩
    show _=Ending.returned (.tuple #[.int .i64 (cx a.s.thr a.n h 16 0).1,.int .i64 (cx a.s.thr a.n h 16 0).2])
    rw[← hf,hst,cx];try simp only
    rw[if_neg hc,if_pos h44]
   ·refine J 15 ?_
    refine .eE rfl rfl rfl fun w s=>⟨(),?_,trivial,ar .auto s⟩
    show _=Ending.returned (.tuple #[.int .i64 (cx a.s.thr a.n h 16 0).1,.int .i64 (cx a.s.thr a.n h 16 0).2])
    rw[← hf,hst,cx];try simp only
    rw[if_neg hc,if_neg h44]
 ·refine J 12 ?_
  refine .eE rfl rfl rfl fun w s=>⟨(),?_,trivial,ar .auto s⟩
  show _=Ending.returned (.tuple #[.int .i64 (cx a.s.thr a.n h 16 0).1,.int .i64 (cx a.s.thr a.n h 16 0).2])
  rw[← hf,show 16-k=0 from by omega,cx]
theorem EL{W:World}{ba b:Nat}{v:RV}{a:RA}{h:Int}(hn:a.n<16)(hr:a.s.av.length≤900000000)(hI:ja a.i):Fn Tryz.prog W 130 [ptr ba,.int .u64 h] [cy ba b v a] Unit (fun _=>.tuple #[]) (fun _=>True) (fun _=>[cy ba b v (a.join h)]):=by
 refine Fn.intro (N:=89) func130 rfl ntmps130 rfl fun F=>?_
 show ax _ _ _ _ _ _ [cy ba b v a,F]
 refine .o2 (C:=cy ba b v (a)) .auto rfl ?_
 rintro vw vl -
 refine .fr (A:=bP b v (a).s) .auto bu ?_
 have hIa:=hI.a
 refine J 13 ?_
 refine .c call131 rfl (tP (h:=h) hn) fun _ _=>?_
 refine J 1 ?_
 refine .p (.extract (v:=.int .i64 (a.other h).1) rfl rfl) ?_
 refine .p (.extract (v:=.int .i64 (a.other h).2) rfl rfl) ?_
 refine JD 11 (fun h18=>?_) fun h18=>?_
 ·refine J 5 ?_
  refine .c call129 rfl (cv (a:=a) (x:=h) (y:=0) (e:=(a.other h).2) hn (by omega) (by have:=jk (thr:=a.s.thr) (self:=a.n) (h:=h) (f:=16) (n:=0);show 0≤(cx _ _ _ _ _).2∧(cx _ _ _ _ _).2≤11;omega)) fun _ _=>?_
  refine J 4 ?_
  rw[xv h18]
  exact JR 0 ()
 ·refine J 5 ?_
  obtain⟨m,hm1, -,hm16,hne, -⟩:=pO (show(a.other h).2=0 from Decidable.not_not.mp h18)
  have hm16:m<16:=by omega
  have hm1:(a.other h).1=(m:Int):=hm1
  refine .o2 (C:=cy ba b v (a)) .auto rfl ?_
  rintro vw vl -
  refine .fr (A:=bP b v (a).s) .auto bu ?_
  refine J 4 ?_
  refine .p (.aE m underlying54 sizeOf53 rfl rfl hm1 (by omega)) ?_
  refine J 1 ?_
  refine .p (.ld rfl (Cell.t (by first | omega | exact hn) rfl)) ?_
  refine JD 3 (fun h30=>?_) fun h30=>?_
  ·refine J 1 ?_
   refine .draw [] [1,1,1,1,1,1,1,1,1,1,1,1,1,1,1,1,1,1,1,1,1,1,3] rfl (by kernel_rfl) ?_
   refine J 14 ?_
   refine .p (.aE m underlying54 sizeOf53 rfl rfl hm1 (by omega)) ?_
   refine J 1 ?_
   refine .p (.ld rfl (Cell.t (by first | omega | exact hn) rfl)) ?_
   refine J 2 ?_
   refine .p (.aE _ underlying54 sizeOf53 rfl rfl rfl (by first | omega | exact hn | decide)) ?_
   refine J 1 ?_
   refine .p (.aE a.i.a.toNat underlying39 sizeOf38 rfl rfl (by omega) (by omega)) ?_
   refine .d3 rfl (af.qC sizeOf38 rfl rfl (by first | omega | exact hn) (by first | omega | decide)) ?_
   rintro _ _ ⟨rfl,rfl⟩
   refine J 8 ?_
   refine .p (.aE m underlying54 sizeOf53 rfl rfl hm1 (by omega)) ?_
   refine J 1 ?_
   refine .aw rfl (af.AO sizeOf4 rfl rfl (by first | omega | exact hn)) ?_
   rintro _ _ ⟨rfl,rfl⟩
   refine J 10 ?_
   refine .p (.aE m underlying54 sizeOf53 rfl rfl hm1 (by omega)) ?_
   refine J 1 ?_
   refine .p (.dC (Y.load isAgg38 rfl (Cell.t (f:=({(a.aj (a.t.put a.i.a (a.s.thr m).value)) with s:=(a.aj (a.t.put a.i.a (a.s.thr m).value)).s.aj m {(a.aj (a.t.put a.i.a (a.s.thr m).value)).s.t m with used:=false } }:RA).s.thr) (n:=m) (j:=13) hm16 rfl)) (show _=(a.s.thr m).value by rw[show({(a.aj (a.t.put a.i.a (a.s.thr m).value)) with s:=(a.aj (a.t.put a.i.a (a.s.thr m).value)).s.aj m {(a.aj (a.t.put a.i.a (a.s.thr m).value)).s.t m with used:=false } }:RA).s.thr m = {(a.aj (a.t.put a.i.a (a.s.thr m).value)).s.t m with used:=false } from dz];show((a.aj (a.t.put a.i.a (a.s.thr m).value)).s.t m).value=(a.s.thr m).value;rw[show(a.aj (a.t.put a.i.a (a.s.thr m).value)).s.t m=a.s.thr m from jj hne])) ?_
   refine .c call129 rfl (cv (a:=({(a.aj (a.t.put a.i.a (a.s.thr m).value)) with s:=(a.aj (a.t.put a.i.a (a.s.thr m).value)).s.aj m {(a.aj (a.t.put a.i.a (a.s.thr m).value)).s.t m with used:=false } }:RA)) (x:=h) (y:=(a.s.thr m).value) (e:=0) hn (by show a.s.av.length≤_;omega) (by decide)) fun _ _=>?_
   refine J 4 ?_
   rw[xw h18 hm1 h30]
   exact JR 0 ()
  ·refine J 3 ?_
   refine .draw [] [1,1,1,1,1,1,1,1,1,1,1,3] rfl (by kernel_rfl) ?_
   refine J 9 ?_
   refine .p (.aE m underlying54 sizeOf53 rfl rfl hm1 (by omega)) ?_
   refine J 1 ?_
   refine .d3 rfl (af.JX sizeOf3 rfl rfl (by first | omega | exact hn)) ?_
   rintro _ _ ⟨rfl,rfl⟩
   refine J 9 ?_
   refine .p (.add rfl rfl (by omega)) ?_
   refine J 1 ?_
   refine .c call133 rfl (gj (a:=({a with s:=a.s.aj m {a.s.t m with au:=(a.n:Int)+1 } }:RA)) (why:=4) (into:=a.i.a+1) (x:=h) (y:=0) hn (by show a.s.av.length≤_;omega)) fun _ _=>?_
   refine J 1 ?_
   rw[tM h18 hm1 h30]
   exact JR 0 ()
end Go.SLYtefdijgllbkmfaaGreat
namespace Go.SLYtefdijgllbkmfaaGreat
open Go Go.RowKit
theorem my{α:Type}{l:List α}{n:Nat}:([]++(l.take n).drop 0)++(l.take l.length).drop (n+1)=l.eraseIdx n:=by
 rw[List.nil_append,List.drop_zero,List.take_length,jV]
theorem bH{α:Type}{l:List α}{n:Nat}{x d:α}(h:l[n]?=some x):l.getD n d=x:=by rw[List.getD_eq_getElem?_getD,h];rfl
theorem vR{s:RSp}{m:Nat}{who:Int}{x:gh}(h:s.aG[m]?=some x)(ho:x.owner≠0):s.want m who=(false,{s with aG:=s.aG.set m {x with wait:=x.wait++[who] } }):=by unfold RSp.want;rw[bH h];exact if_pos ho
theorem r8{s:RSp}{m:Nat}{who:Int}{x:gh}(h:s.aG[m]?=some x)(ho:¬x.owner≠0):s.want m who=(true,{s with aG:=s.aG.set m {x with owner:=who+1 } }):=by unfold RSp.want;rw[bH h];exact if_neg ho
theorem AP{s:RSp}{m:Nat}{c:Int}{x:gh}(h:s.aG[m]?=some x)(hw:x.wait.length=0):s.open m c=(0,{s with aG:=s.aG.set m {x with owner:=0 } }):=by unfold RSp.open;rw[bH h];exact if_pos hw
theorem xx{s:RSp}{m:Nat}{c:Int}{x:gh}(h:s.aG[m]?=some x)(hw:¬x.wait.length=0):s.open m c=(x.wait.getD (pick c x.wait.length) 0+1,{s with aG:=s.aG.set m ⟨x.wait.getD (pick c x.wait.length) 0+1,x.wait.eraseIdx (pick c x.wait.length)⟩ }):=by unfold RSp.open;rw[bH h];exact if_neg hw
def Lc(v:Value)(n:Nat):Prop:=∃ b cap,v = .slice (some ⟨b,0,none⟩) n cap
section
variable{P:Program}{W:World}{N:Nat}{L:List (Nat×Option Value)}{H:List aa}{T:TypeId}
theorem Y.sL{k:Nat}{x y:Operand}{t e:TypeId}{v:Value}{n:Nat}{kd:IntKind}{j:Int}(i:Nat)(hu:P.underlying t=some (.slice e))(hz:∀ w,(sizeOf e).run P w = .ok k w)(hx:ev L x=some v)(hy:ev L y=some (.int kd j))(h:Lc v n)(hj:j=(i:Int))(hi:i<n) :
  Y P W N (.indexAddr t x y) T L H (.pointer (some ⟨blk v,cz v+i * k,none⟩)):=fun dst pos after guard a w ha hs=>by
 obtain⟨b,cap,rfl⟩:=h
 subst hj
 simp only[execOp,ha.eval hx,ha.eval hy]
 refine bI ?_
 simp[Instr.indexAt,asIntOf,run_underlying hu,hi,hz,dQ,blk,cz]
end
section
variable{β γ:Type}{enc:γ×β→List Value}{k:Nat}{inner:γ×β→aa}{v:Value}{l:List β}
theorem eO(h0:0<l.length):∀ h,eD enc k inner v l h→Lc v l.length:=fun h ⟨xs,hxs,a⟩=>by
 rw[ic] at a
 obtain⟨h1,h2,a1,_,_,_⟩:=a
 have hl:xs.length=l.length:=by rw[← List.length_map (f:=(·.2)),hxs]
 obtain⟨b,cap,e,_⟩:=jU (fun e=>by rw[e] at hl;simp at hl;omega) h1 a1
 exact⟨b,cap,by rw[e,hl]⟩
end
/-! a signal -/
def fk(a:RA)(L:List cV)(choice:Int):List cV:=if a.i.op=28∧0<L.length then [L.getD (pick choice L.length) ⟨0,0⟩] else L
def oN(a:RA)(L:List cV)(choice:Int):List cV:=if a.i.op=28∧0<L.length then L.eraseIdx (pick choice L.length) else []
def mG(a:RA)(c:Nat)(choice:Int):RA:={a.done a.i.n 0 0 with s:={(a.done a.i.n 0 0).s with bm:=a.s.bm.set c (oN a (a.s.bm.getD c []) choice) } }
theorem tQ{a:RA}{c:Nat}{choice:Int}:a.signal c choice=rSignal (mG a c choice) (fk a (a.s.bm.getD c []) choice):=by
 unfold RA.signal mG oN fk
 show(if a.i.op=28∧0<(a.s.bm.getD c []).length then _ else _)=_
 split <;> rfl
def fa(a:RA)(w:cV):RA:=if (a.s.want w.mutex.toNat w.who).1=true then ({a with s:=(a.s.want w.mutex.toNat w.who).2 }:RA).free w.who.toNat 0 else {a with s:=(a.s.want w.mutex.toNat w.who).2.aj w.who.toNat {(a.s.want w.mutex.toNat w.who).2.t w.who.toNat with why:=1 } }
theorem oO{a:RA}{w:cV}{l:List cV}:rSignal a (w::l)=rSignal (fa a w) l:=by
 rw[rSignal];unfold fa;simp only;split <;> rfl
theorem wh.cE{t:RT}(h:wh t){y:Int}(hy:0≤y∧y≤18446744073709551615):wh (t.cE y):=by
 have hp:∀ (u:RT) (a v:Int),wh u→0≤v∧v≤18446744073709551615→wh (u.put a v):=fun u a v hu hv=>⟨fun k=>by
  show 0≤dP u.aq a.toNat v k∧dP u.aq a.toNat v k≤_
  unfold dP;split;exact hv;exact hu.r k,hu.i,hu.j,hu.p,hu.v⟩
 have h1:wh ((if t.into=0 then t else t.put (t.into-1) y).put 7 0):=hp _ _ _ (by split;exact h;exact hp _ _ _ h hy) ⟨by decide,by decide⟩
 exact⟨h1.r,⟨(by decide:(0:Int)≤0),(by decide:(0:Int)≤8)⟩,h1.j,h1.p,h1.v⟩
theorem fM.cZ{s:RSp}(h:fM s){n:Nat}{y:Int}(hy:0≤y∧y≤18446744073709551615):fM (s.cZ n y):=h.dP rfl ((h n).cE hy)
theorem xy{s:RSp}{m:Nat}{who:Int}:(s.want m who).2.thr=s.thr∧(s.want m who).2.aG.length=s.aG.length:=by
 unfold RSp.want;simp only;split <;> exact⟨rfl,List.length_set⟩
theorem Cb{s:RSp}{m:Nat}{who:Int}{k:Nat}(h:∀ x∈s.aG,x.wait.length≤k):∀ x∈(s.want m who).2.aG,x.wait.length≤k+1:=fun x hx=>by
 have hd:(s.aG.getD m ⟨0,[]⟩).wait.length≤k:=by
  rw[List.getD_eq_getElem?_getD]
  cases e:s.aG[m]? with
  | none=>exact Nat.zero_le _
  | some z=>exact h z (List.mem_of_getElem? e)
 unfold RSp.want at hx;simp only at hx
 split at hx
 all_goals
  rcases List.mem_or_eq_of_mem_set hx with e | e
  ·have:=h x e;omega
  ·subst e;first | exact Nat.le_succ_of_le hd | (show((s.aG.getD m ⟨0,[]⟩).wait++[who]).length≤k+1;rw[List.length_append,List.length_singleton];omega)
structure vT(a0:RA)(l0:List cV)(j:Nat)(a:RA):Prop where
 hj:j≤l0.length
 eq:rSignal a (l0.drop j)=rSignal a0 l0
 n:a.n=a0.n
 T:fM a.s
 l:a.late.length≤a0.late.length+j
 w:a.e.aC.length≤a0.e.aC.length+j
 ml:a.s.aG.length=a0.s.aG.length
 mw:∀ x∈a.s.aG,x.wait.length≤1000000+j
theorem vT.zero{a0:RA}{l0:List cV}(hT:fM a0.s)(hm:∀ x∈a0.s.aG,x.wait.length≤1000000):vT a0 l0 0 a0:=⟨Nat.zero_le _,rfl,rfl,hT,Nat.le_refl _,Nat.le_refl _,rfl,hm⟩
theorem vT.next{a0 a:RA}{l0:List cV}{j:Nat}{w:cV}(h:vT a0 l0 j a)(hw:l0[j]?=some w):vT a0 l0 (j+1) (fa a w):=by
 have hj:=(List.getElem?_eq_some_iff.1 hw).1
 have hd:l0.drop j=w::l0.drop (j+1):=by
  rw[List.drop_eq_getElem_cons hj];congr 1;exact(List.getElem?_eq_some_iff.1 hw).2
 have hwt:=xy (s:=a.s) (m:=w.mutex.toNat) (who:=w.who)
 have hwa:=Cb (s:=a.s) (m:=w.mutex.toNat) (who:=w.who) h.mw
 have hT2:fM (a.s.want w.mutex.toNat w.who).2:=fun m=>by rw[hwt.1];exact h.T m
 have he:rSignal (fa a w) (l0.drop (j+1))=rSignal a0 l0:=by rw[← h.eq,hd,oO]
 refine⟨hj,he,?_,?_,?_,?_,?_,?_⟩
 all_goals unfold fa;split
 ·exact h.n
 ·exact h.n
 ·exact hT2.cZ ⟨by decide,by decide⟩
 ·exact hT2.dP rfl ⟨(hT2 _).r,(hT2 _).i,(hT2 _).j,(hT2 _).p,(hT2 _).v⟩
 ·show(a.late++[_]).length≤_;have:=h.l;rw[List.length_append,List.length_singleton];omega
 ·show a.late.length≤_;have:=h.l;omega
 ·show(a.e.aC++[_]).length≤_;have:=h.w;rw[List.length_append,List.length_singleton];omega
 ·show a.e.aC.length≤_;have:=h.w;omega
 ·exact hwt.2.trans h.ml
 ·exact hwt.2.trans h.ml
 ·intro x hx;have:=hwa x hx;omega
 ·intro x hx;have:=hwa x hx;omega
theorem vT.done{a0 a:RA}{l0:List cV}{j:Nat}(h:vT a0 l0 j a)(hj:¬j<l0.length):rSignal a0 l0=a:=by
 rw[← h.eq,List.drop_of_length_le (by omega)];rfl
end Go.SLYtefdijgllbkmfaaGreat
namespace Go.SLYtefdijgllbkmfaaGreat
open Go Go.RowKit Go.Proofs Go.Proofs.Tryz
attribute [local irreducible] ax aP bA cp bF Y
theorem l2{W:World}{A:aa}{v:Value}{l:List Int}{n:Nat}(hr:Rd W [A] aH 1 v l)(hn:n<l.length)(hl:l.length≤100000000):Fn Tryz.prog W 188 [v,.int .i64 (n:Int)] [A] Value (fun u=>u) (fun _=>True) (fun u=>[sl aH 1 u (l.eraseIdx n),A]):=by
 refine Fn.intro (N:=15) func188 rfl ntmps188 rfl fun F=>?_
 haveI hRI:∀ (H:List aa) [bW H A],aJ W H v aH 1 l:=fun H h=>⟨hr.at h.has⟩
 have hr1:=hr.cut (lo:=0) (hi:=n) (Nat.zero_le _) (by omega)
 have hr2:=hr.cut (lo:=n+1) (hi:=l.length) (by omega) (Nat.le_refl _)
 haveI hRI:∀ (H:List aa) [bW H A],aJ W H (cut 1 0 n v) aH 1 ((l.take n).drop 0):=fun H h=>⟨hr1.at h.has⟩
 haveI hRI:∀ (H:List aa) [bW H A],aJ W H (cut 1 (n+1) l.length v) aH 1 ((l.take l.length).drop (n+1)):=fun H h=>⟨hr2.at h.has⟩
 show ax _ _ _ _ _ _ [A,F]
 refine J 6 ?_
 refine .draw [A] [2,0,0,0,2,0,0,0,0,3,1] rfl (by kernel_rfl) ?_
 refine .d2 rfl Kept.auto (af.gD 3 rfl rfl (by kernel_rfl)) (by rintro _ _ ⟨b5,rfl,rfl⟩;exact Kept.auto) ?_
 rintro _ _ ⟨b5,rfl,rfl⟩
 refine .to (A:=sl aH 1 (.slice (some ⟨b5,0,none⟩) 0 0) ([]:List Int)) (Bs:=[]) .nil (fun h e=>.inl ⟨⟨_,rfl⟩,rfl,e⟩) ?_
 refine J 2 ?_
 refine .q (.sliceTo n underlying23 sizeOf3 rfl rfl Rd.s rfl (by omega)) ?_
 refine .d2 rfl Kept.auto (af.append rfl underlying23 underlying23 typeInfo3 rfl rfl rfl (by decide) rfl rfl .auto Rd.s (by simp;omega) (nJ _)) (by rintro _ _ ⟨v9,rfl,rfl⟩;exact Kept.auto) ?_
 rintro _ _ ⟨v9,rfl,rfl⟩
 refine J 3 ?_
 refine .q (.sliceFrom (n+1) underlying23 sizeOf3 rfl rfl Rd.s rfl (by omega)) ?_
 refine .d3 rfl (af.append rfl underlying23 underlying23 typeInfo3 rfl rfl rfl (by decide) rfl rfl .auto Rd.s (by simp;omega) (nJ _)) ?_
 rintro _ _ ⟨v14,rfl,rfl⟩
 refine J 4 ?_
 rw[my]
 exact JR 0 v14
theorem xz{W:World}{b:Nat}{v:RV}{s:RSp}{who:Int}{m:Nat}{x:gh}(hx:s.aG[m]?=some x)(_hm:s.aG.length≤1000000)(hw:x.wait.length≤100000000)(h0:0≤who∧who<16):Fn Tryz.prog W 185 [ptr b,.int .i64 (m:Int),.int .i64 who] [bP b v s] Unit (fun _=>.bool (s.want m who).1) (fun _=>True) (fun _=>[bP b v (s.want m who).2]):=by
 refine Fn.intro (N:=43) func185 rfl ntmps185 rfl fun F=>?_
 show ax _ _ _ _ _ _ [bP b v s,F]
 refine .fr (A:=bP b v s) .auto bu ?_
 refine .o1 (C:=zk b (s).aG) .auto rfl ?_
 rintro vM -
 have hlt:=(List.getElem?_eq_some_iff.1 hx).1
 refine .eS (fun w st=>st.fact .auto (eO (Nat.lt_of_le_of_lt (Nat.zero_le _) hlt))) fun hS=>?_
 refine .fr .auto (fL (enc:=dY) (k:=2) (inner:=ec) (fun _=>rfl) hx) ?_
 refine .o1 (C:=cB dY ec (blk vM) (cz vM+m * 2) x) .auto rfl ?_
 rintro uw -
 rw[show ec (uw,x)=sl aH 1 uw x.wait from rfl,show dY (uw,x)=[.int .i64 x.owner,uw] from rfl]
 refine J 13 ?_
 refine .p (.sL m underlying56 sizeOf287 rfl rfl hS rfl hlt) ?_
 refine JD 5 (fun h15=>?_) fun h15=>?_
 ·refine J 1 ?_
  refine .draw [arr b 313 [vM],arr (blk vM) (cz vM+m * 2) [.int .i64 x.owner,uw]] [0,0,0,0,0,0,0,0,0,0,0,0,0,1,2,2,1,1,3] rfl (by kernel_rfl) ?_
  refine J 10 ?_
  refine .q (.sL m underlying56 sizeOf287 rfl rfl hS rfl hlt) ?_
  refine J 3 ?_
  refine .d2 rfl Kept.auto (af.gD 3 rfl rfl (by kernel_rfl)) (by rintro _ _ ⟨b30,rfl,rfl⟩;exact Kept.auto) ?_
  rintro _ _ ⟨b30,rfl,rfl⟩
  refine .d2 rfl Kept.auto (af.fj (enc:=aH) (k:=1) who rfl underlying23 underlying23 typeInfo3 rfl rfl rfl (by decide) rfl rfl rfl .auto rfl .auto (by omega) rfl) (by rintro _ _ ⟨v31,rfl,rfl⟩;exact Kept.auto) ?_
  rintro _ _ ⟨v31,rfl,rfl⟩
  refine .p (.sL m underlying56 sizeOf287 rfl rfl hS rfl hlt) ?_
  refine J 1 ?_
  refine .d3 rfl (af.uR sizeOf23 rfl rfl rfl) ?_
  rintro _ _ ⟨rfl,rfl⟩
  refine J 9 ?_
  refine .to (A:=eD dY 2 ec vM (s.aG.set m {x with wait:=x.wait++[who] })) (Bs:=[cB dY ec (blk vM) (cz vM+m * 2) {x with wait:=x.wait++[who] },gK dY 2 ec vM s.aG m]) .auto (fV {x with wait:=x.wait++[who] }) ?_
  rw[vR hx h15]
  exact JR 0 ()
 ·refine J 10 ?_
  refine .p (.add rfl rfl (by omega)) ?_
  refine .p (.sL m underlying56 sizeOf287 rfl rfl hS rfl hlt) ?_
  refine J 1 ?_
  refine .aw rfl (af.Hg sizeOf3 rfl rfl rfl rfl) ?_
  rintro _ _ ⟨rfl,rfl⟩
  refine J 8 ?_
  refine .to (A:=eD dY 2 ec vM (s.aG.set m {x with owner:=who+1 })) (Bs:=[cB dY ec (blk vM) (cz vM+m * 2) {x with owner:=who+1 },gK dY 2 ec vM s.aG m]) .auto (fV {x with owner:=who+1 }) ?_
  rw[r8 hx h15]
  exact JR 0 ()
theorem xA{W:World}{b:Nat}{v:RV}{s:RSp}{choice:Int}{m:Nat}{x:gh}(hx:s.aG[m]?=some x)(_hm:s.aG.length≤1000000)(hw:x.wait.length≤100000000)(h0:∀ w∈x.wait,0≤w∧w<16):Fn Tryz.prog W 186 [ptr b,.int .i64 (m:Int),.int .i64 choice] [bP b v s] Unit (fun _=>.int .i64 (s.open m choice).1) (fun _=>True) (fun _=>[bP b v (s.open m choice).2]):=by
 refine Fn.intro (N:=57) func186 rfl ntmps186 rfl fun F=>?_
 show ax _ _ _ _ _ _ [bP b v s,F]
 refine .fr (A:=bP b v s) .auto bu ?_
 refine .o1 (C:=zk b (s).aG) .auto rfl ?_
 rintro vM -
 have hlt:=(List.getElem?_eq_some_iff.1 hx).1
 refine .eS (fun w st=>st.fact .auto (eO (Nat.lt_of_le_of_lt (Nat.zero_le _) hlt))) fun hS=>?_
 refine .fr .auto (fL (enc:=dY) (k:=2) (inner:=ec) (fun _=>rfl) hx) ?_
 refine .o1 (C:=cB dY ec (blk vM) (cz vM+m * 2) x) .auto rfl ?_
 rintro uw -
 rw[show ec (uw,x)=sl aH 1 uw x.wait from rfl,show dY (uw,x)=[.int .i64 x.owner,uw] from rfl]
 refine J 12 ?_
 refine .p (.sL m underlying56 sizeOf287 rfl rfl hS rfl hlt) ?_
 refine J 12 ?_
 refine .p (.sL m underlying56 sizeOf287 rfl rfl hS rfl hlt) ?_
 refine J 1 ?_
 refine .aw rfl (af.Hg sizeOf3 rfl rfl rfl rfl) ?_
 rintro _ _ ⟨rfl,rfl⟩
 refine JD 10 (fun h27=>?_) fun h27=>?_
 ·refine J 7 ?_
  refine .to (A:=eD dY 2 ec vM (s.aG.set m {x with owner:=0 })) (Bs:=[cB dY ec (blk vM) (cz vM+m * 2) {x with owner:=0 },gK dY 2 ec vM s.aG m]) .auto (fV {x with owner:=0 }) ?_
  rw[AP hx (by omega)]
  exact JR 0 ()
 ·refine J 4 ?_
  have hpk:pick choice x.wait.length<x.wait.length:=eY (by omega)
  refine J 3 ?_
  refine .c call94 rfl (oL (c:=choice) (n:=x.wait.length) (by omega) (by omega)) fun _ _=>?_
  refine J 7 ?_
  refine .p (.iu (pick choice x.wait.length) underlying23 sizeOf3 rfl rfl Rd.s rfl hpk) ?_
  refine .p (.ld rfl (Cell.yn Rd.s (getD_some (d:=(0:Int)) hpk) (by rfl))) ?_
  refine J 4 ?_
  refine .draw [arr b 313 [vM]] [0,0,0,0,0,1,1,2,1,1,3] rfl (by kernel_rfl) ?_
  refine J 7 ?_
  refine .c2 call188 rfl (l2 (A:=sl aH 1 uw x.wait) (n:=(pick choice x.wait.length)) (Rd.sl .here) hpk (by omega)) fun u43 _=>?_
  refine .p (.sL m underlying56 sizeOf287 rfl rfl hS rfl hlt) ?_
  refine J 1 ?_
  refine .d3 rfl (af.uR sizeOf23 rfl rfl rfl) ?_
  rintro _ _ ⟨rfl,rfl⟩
  refine J 10 ?_
  refine .p (.add rfl rfl (by have:=h0 _ (List.mem_of_getElem? (getD_some (d:=(0:Int)) hpk));omega)) ?_
  refine .p (.sL m underlying56 sizeOf287 rfl rfl hS rfl hlt) ?_
  refine J 1 ?_
  refine .aw rfl (af.Hg sizeOf3 rfl rfl rfl rfl) ?_
  rintro _ _ ⟨rfl,rfl⟩
  refine J 5 ?_
  refine .p (.add rfl rfl (by have:=h0 _ (List.mem_of_getElem? (getD_some (d:=(0:Int)) hpk));omega)) ?_
  refine J 4 ?_
  refine .to (A:=eD dY 2 ec vM (s.aG.set m (⟨x.wait.getD (pick choice x.wait.length) 0+1,x.wait.eraseIdx (pick choice x.wait.length)⟩:gh))) (Bs:=[cB dY ec (blk vM) (cz vM+m * 2) (⟨x.wait.getD (pick choice x.wait.length) 0+1,x.wait.eraseIdx (pick choice x.wait.length)⟩:gh),gK dY 2 ec vM s.aG m]) .auto (fV (⟨x.wait.getD (pick choice x.wait.length) 0+1,x.wait.eraseIdx (pick choice x.wait.length)⟩:gh)) ?_
  rw[xx hx (by omega)]
  exact JR 0 ()
theorem zl{W:World}{ba b:Nat}{v:RV}{a:RA}{c:Nat}{choice:Int}(hn:a.n<16)(hT:fM a.s)(hl:a.late.length≤500000)(hw:a.e.aC.length≤500000)(hr:a.s.av.length≤900000000)(hc:c<a.s.bm.length)(_hcl:a.s.bm.length≤1000000)(hll:(a.s.bm.getD c []).length≤100000)(hm:a.s.aG.length≤1000000)(hmw:∀ x∈a.s.aG,x.wait.length≤1000000)(hwt:∀ w∈(a.s.bm.getD c []),(0≤w.who∧w.who<16)∧0≤w.mutex∧w.mutex<(a.s.aG.length:Int)):Fn Tryz.prog W 187 [ptr ba,.int .i64 (c:Int),.int .i64 choice] [cy ba b v a] Unit (fun _=>.tuple #[]) (fun _=>True) (fun _=>[cy ba b v (a.signal c choice)]):=by
 refine Fn.intro (N:=107) func187 rfl ntmps187 rfl fun F=>?_
 show ax _ _ _ _ _ _ [cy ba b v a,F]
 refine .o2 (C:=cy ba b v (a)) .auto rfl ?_
 rintro vw vl -
 refine .fr (A:=bP b v (a).s) .auto bu ?_
 have hgc:a.s.bm[c]?=some (a.s.bm.getD c []):=getD_some hc
 have hT1:fM (mG a c choice).s:=hT.dP (n:=a.n) (t:=a.t.put 7 0) rfl ⟨fun k=>by
  show 0≤dP (a.s.thr a.n).aq 7 0 k∧dP (a.s.thr a.n).aq 7 0 k≤_
  unfold dP;split;exact⟨by decide,by decide⟩;exact(hT a.n).r k,(hT a.n).i,(hT a.n).j,(hT a.n).p,(hT a.n).v⟩
 have hS0:=vT.zero (a0:=(mG a c choice)) (l0:=(fk a (a.s.bm.getD c []) choice)) hT1 hmw
 refine J 17 ?_
 refine .c call129 rfl (cv (a:=a) (x:=a.i.n) (y:=0) (e:=0) hn (by omega) (by decide)) fun _ _=>?_
 refine J 4 ?_
 refine .o2 (C:=cy ba b v ((a.done a.i.n 0 0))) .auto rfl ?_
 rintro vw vl -
 refine .fr (A:=bP b v ((a.done a.i.n 0 0)).s) .auto bu ?_
 refine .o1 (C:=Gx b a.s.bm) .auto rfl ?_
 rintro vC -
 refine .eS (fun w st=>st.fact .auto (eO (Nat.lt_of_le_of_lt (Nat.zero_le _) hc))) fun hSC=>?_
 refine .fr .auto (fL (enc:=cj) (k:=1) (inner:=lu) (fun _=>rfl) hgc) ?_
 refine .o1 (C:=cB cj lu (blk vC) (cz vC+c * 1) (a.s.bm.getD c [])) .auto rfl ?_
 rintro uC -
 rw[show lu (uC,(a.s.bm.getD c []))=sl cF 2 uC (a.s.bm.getD c []) from rfl,show cj (uC,(a.s.bm.getD c []))=[uC] from rfl]
 refine J 5 ?_
 refine .p (.sL c underlying57 sizeOf288 rfl rfl hSC rfl hc) ?_
 refine J 10 ?_
 refine .nv (X:=Value) [8,9,30,31,32,33,34,35,36,37,38,39,40,41,42,43,44,45,46,47,48,49,50,51,52,53,54,55,56,57,58,59,60,61,62,63,64,65,66,67,68,69,70,71] (fun _=>True) (fun z=>[(8,some z)]) (fun z=>[sl cF 2 z (fk a (a.s.bm.getD c []) choice),cy ba b v (mG a c choice),F]) ?_ ?_
 ·refine J 9 ?_
  apply aP.fq 4 40 36 [36,37,38,39,40] rfl
  ·intro h36
   exact JS 5
  ·intro h36
   exact JS 5
  refine JD 2 (fun h40=>?_) fun h40=>?_
  ·simp only[Bool.and_eq_true,decide_eq_true_eq] at h40
   have h40:a.i.op=28∧0<(a.s.bm.getD c []).length:=⟨h40.1,by have:=h40.2;omega⟩
   refine J 2 ?_
   have hpk:(pick choice (a.s.bm.getD c []).length)<(a.s.bm.getD c []).length:=eY h40.2
   have hr0:Rd W [sl cF 2 uC (a.s.bm.getD c [])] cF 2 uC (a.s.bm.getD c []):=Rd.sl .here
   have hr1:=hr0.cut (lo:=0) (hi:=(pick choice (a.s.bm.getD c []).length)) (Nat.zero_le _) (by omega)
   have hr2:=hr0.cut (lo:=(pick choice (a.s.bm.getD c []).length)+1) (hi:=(a.s.bm.getD c []).length) (by omega) (Nat.le_refl _)
   haveI hI1:∀ (H:List aa) [bW H (sl cF 2 uC (a.s.bm.getD c []))],aJ W H (cut 2 0 (pick choice (a.s.bm.getD c []).length) uC) cF 2 (((a.s.bm.getD c []).take (pick choice (a.s.bm.getD c []).length)).drop 0):=fun H h=>⟨hr1.at h.has⟩
   haveI hI2:∀ (H:List aa) [bW H (sl cF 2 uC (a.s.bm.getD c []))],aJ W H (cut 2 ((pick choice (a.s.bm.getD c []).length)+1) (a.s.bm.getD c []).length uC) cF 2 (((a.s.bm.getD c []).take (a.s.bm.getD c []).length).drop ((pick choice (a.s.bm.getD c []).length)+1)):=fun H h=>⟨hr2.at h.has⟩
   refine J 3 ?_
   refine .c call94 rfl (oL (c:=choice) (n:=(a.s.bm.getD c []).length) (by omega) (by omega)) fun _ _=>?_
   refine J 7 ?_
   refine .p (.iu (pick choice (a.s.bm.getD c []).length) underlying288 sizeOf290 rfl rfl Rd.s rfl hpk) ?_
   refine .p (.la rfl (Cells.rd Rd.s (getD_some (d:=(⟨0,0⟩:cV)) hpk))) ?_
   refine .aw rfl (af.gD 290 rfl rfl (by kernel_rfl)) ?_
   rintro _ _ ⟨b49,rfl,rfl⟩
   refine .to (A:=sl cF 2 (.slice (some ⟨b49,0,none⟩) 1 1) [(a.s.bm.getD c []).getD (pick choice (a.s.bm.getD c []).length) ⟨0,0⟩]) (Bs:=[arr b49 0 (cF ((a.s.bm.getD c []).getD (pick choice (a.s.bm.getD c []).length) ⟨0,0⟩))]) .auto (uL _ rfl (fun _ _=>rfl) (by simp[rows])) ?_
   refine J 3 ?_
   refine .draw [arr b 314 [vC],sl cF 2 uC (a.s.bm.getD c [])] [0,0,0,0,0,2,0,0,0,2,0,0,0,0,2,1,3] rfl (by kernel_rfl) ?_
   refine J 5 ?_
   refine .d2 rfl Kept.auto (af.gD 290 rfl rfl (by kernel_rfl)) (by rintro _ _ ⟨b55,rfl,rfl⟩;exact Kept.auto) ?_
   rintro _ _ ⟨b55,rfl,rfl⟩
   refine .to (A:=sl cF 2 (.slice (some ⟨b55,0,none⟩) 0 0) ([]:List cV)) (Bs:=[]) .nil (fun h e=>.inl ⟨⟨_,rfl⟩,rfl,e⟩) ?_
   refine J 2 ?_
   refine .q (.sliceTo (pick choice (a.s.bm.getD c []).length) underlying288 sizeOf290 rfl rfl Rd.s rfl (by omega)) ?_
   refine .d2 rfl Kept.auto (af.append rfl underlying288 underlying288 typeInfo290 rfl rfl rfl (by decide) rfl rfl .auto Rd.s (by simp only[List.length_nil,List.length_drop,List.length_take];omega) (rn _)) (by rintro _ _ ⟨v59,rfl,rfl⟩;exact Kept.auto) ?_
   rintro _ _ ⟨v59,rfl,rfl⟩
   refine J 3 ?_
   refine .q (.sliceFrom ((pick choice (a.s.bm.getD c []).length)+1) underlying288 sizeOf290 rfl rfl Rd.s rfl (by omega)) ?_
   refine .d2 rfl Kept.auto (af.append rfl underlying288 underlying288 typeInfo290 rfl rfl rfl (by decide) rfl rfl .auto Rd.s (by simp only[List.length_nil,List.length_append,List.length_drop,List.length_take];omega) (rn _)) (by rintro _ _ ⟨v64,rfl,rfl⟩;exact Kept.auto) ?_
   rintro _ _ ⟨v64,rfl,rfl⟩
   refine .p (.sL c underlying57 sizeOf288 rfl rfl hSC rfl hc) ?_
   refine .d3 rfl (af.mU sizeOf288 rfl rfl rfl) ?_
   rintro _ _ ⟨rfl,rfl⟩
   refine J 1 ?_
   rw[my]
   have e1:(fk a (a.s.bm.getD c []) choice)=[(a.s.bm.getD c []).getD (pick choice (a.s.bm.getD c []).length) ⟨0,0⟩]:=by unfold fk;rw[if_pos h40]
   have e2:(oN a (a.s.bm.getD c []) choice)=(a.s.bm.getD c []).eraseIdx (pick choice (a.s.bm.getD c []).length):=by unfold oN;rw[if_pos h40]
   refine .to (A:=eD cj 1 lu vC (a.s.bm.set c ((a.s.bm.getD c []).eraseIdx (pick choice (a.s.bm.getD c []).length)))) (Bs:=[cB cj lu (blk vC) (cz vC+c * 1) ((a.s.bm.getD c []).eraseIdx (pick choice (a.s.bm.getD c []).length)),gK cj 1 lu vC a.s.bm c]) .auto (fV ((a.s.bm.getD c []).eraseIdx (pick choice (a.s.bm.getD c []).length))) ?_
   refine .eT (.slice (some ⟨b49,0,none⟩) 1 1) .auto ?_ ?_ ?_
   ·trivial
   ·exact⟨rfl,trivial⟩
   ·rw[e1,show(mG a c choice) = {(a.done a.i.n 0 0) with s:={(a.done a.i.n 0 0).s with bm:=a.s.bm.set c ((a.s.bm.getD c []).eraseIdx (pick choice (a.s.bm.getD c []).length)) } } from by unfold mG;rw[e2]];exact fun w s=>aM.kept .auto w s
  ·simp only[Bool.and_eq_false_iff,decide_eq_false_iff_not] at h40
   refine J 6 ?_
   refine .p (.sL c underlying57 sizeOf288 rfl rfl hSC rfl hc) ?_
   refine .aw rfl (af.Hg sizeOf288 rfl rfl rfl rfl) ?_
   rintro _ _ ⟨rfl,rfl⟩
   refine J 1 ?_
   have h40:¬(a.i.op=28∧0<(a.s.bm.getD c []).length):=fun h=>by rcases h40 with e | e;exact e h.1;exact e (by omega)
   have e1:(fk a (a.s.bm.getD c []) choice)=(a.s.bm.getD c []):=by unfold fk;rw[if_neg h40]
   have e2:(oN a (a.s.bm.getD c []) choice)=[]:=by unfold oN;rw[if_neg h40]
   refine .to (A:=eD cj 1 lu vC (a.s.bm.set c ([]:List cV))) (Bs:=[cB cj lu (blk vC) (cz vC+c * 1) ([]:List cV),gK cj 1 lu vC a.s.bm c]) .auto (fV ([]:List cV)) ?_
   refine .eT uC .auto ?_ ?_ ?_
   ·trivial
   ·exact⟨rfl,trivial⟩
   ·rw[e1,show(mG a c choice) = {(a.done a.i.n 0 0) with s:={(a.done a.i.n 0 0).s with bm:=a.s.bm.set c [] } } from by unfold mG;rw[e2]];exact fun w s=>aM.kept .auto w s
 ·rintro uO -
  have hwO:∀ w∈(fk a (a.s.bm.getD c []) choice),(0≤w.who∧w.who<16)∧0≤w.mutex∧w.mutex<(a.s.aG.length:Int):=fun w hw=>hwt w (by
   unfold fk at hw
   split at hw
   ·rename_i h;rw[List.mem_singleton.1 hw];exact List.mem_of_getElem? (getD_some (d:=(⟨0,0⟩:cV)) (eY h.2))
   ·exact hw)
  have hOl:(fk a (a.s.bm.getD c []) choice).length≤100000:=by
   unfold fk;split
   ·show 1≤_;decide
   ·exact hll
  refine J 6 ?_
  refine .df (X:=Nat×RA) [10,72,73,74,75,76,77,78,79,80,81,82,83,84,85,86,87,88,89,90,91,92,93,94,95,96,97,98,99,100,101,102,103,104,105,106] (fun z=>(fk a (a.s.bm.getD c []) choice).length-z.1) (fun z=>vT (mG a c choice) (fk a (a.s.bm.getD c []) choice) z.1 z.2) (fun z=>[(10,some (.int .i64 (z.1:Int)))]) (fun z=>[sl cF 2 uO (fk a (a.s.bm.getD c []) choice),cy ba b v z.2,F]) (0,(mG a c choice)) ?_ ?_ ?_ ?_
  ·exact hS0
  ·exact⟨rfl,trivial⟩
  ·exact fun w s=>aM.kept .auto w s
  rintro⟨j,r⟩ hS
  simp only at hS
  have hj:=hS.hj
  have hln:r.n<16:=by rw[hS.n];exact hn
  have hlt2:=hS.l
  have hlt3:=hS.w
  refine JD 9 (fun h75=>?_) fun h75=>?_
  ·refine J 5 ?_
   refine .o2 (C:=cy ba b v (r)) .auto rfl ?_
   rintro vw vl -
   refine .fr (A:=bP b v (r).s) .auto bu ?_
   refine .draw [] [1,1,1,1,1,1,1,1,1,1,1,3] rfl (by kernel_rfl) ?_
   obtain⟨w,hwj⟩:=aB (show j<(fk a (a.s.bm.getD c []) choice).length by omega)
   obtain⟨⟨hw0,hw16⟩,hm0,hm1⟩:=hwO w (List.mem_of_getElem? hwj)
   obtain⟨x,hx⟩:=aB (show w.mutex.toNat<r.s.aG.length by rw[hS.ml];show _<a.s.aG.length;omega)
   refine J 3 ?_
   refine .p (.ix j rfl rfl rfl (by omega)) ?_
   refine J 1 ?_
   refine .p (.dC (Y.load isAgg3 rfl (Cell.rd (c:=1) Rd.s hwj (by rfl))) (show w.mutex=((w.mutex.toNat:Nat):Int) by omega)) ?_
   refine J 2 ?_
   refine .p (.ix j rfl rfl rfl (by omega)) ?_
   refine J 1 ?_
   refine .p (.lr rfl hwj) ?_
   refine .c call185 rfl (xz (s:=r.s) (who:=w.who) hx (by rw[hS.ml];exact hm) (by have:=hS.mw x (List.mem_of_getElem? hx);omega) (by omega)) fun _ _=>?_
   refine JD 2 (fun h89=>?_) fun h89=>?_
   ·refine J 4 ?_
    refine .p (.ix j rfl rfl rfl (by omega)) ?_
    refine J 1 ?_
    refine .p (.dC (Y.load isAgg3 rfl (Cell.yn Rd.s hwj (by rfl))) (show w.who=((w.who.toNat:Nat):Int) by omega)) ?_
    refine .c call126 rfl (jl (a:={r with s:=(r.s.want w.mutex.toNat w.who).2 }) (n:=w.who.toNat) (y:=0) (by omega) (by rw[show(r.s.want w.mutex.toNat w.who).2.thr=r.s.thr from xy.1];exact(hS.T _).i) (by show r.late.length≤_;have:(mG a c choice).late.length≤500000:=hl;omega) (by show r.e.aC.length≤_;have:(mG a c choice).e.aC.length≤500000:=hw;omega)) fun _ _=>?_
    refine J 8 ?_
    refine .bB (j+1,fa r w) .auto rfl ?_ ?_ ?_ ?_
    ·show(fk a (a.s.bm.getD c []) choice).length-(j+1)<(fk a (a.s.bm.getD c []) choice).length-j;omega
    ·exact hS.next hwj
    ·exact⟨rfl,trivial⟩
    ·show ∀ w_,Sat _ w_ _→Sat _ w_ (seps [sl cF 2 uO (fk a (a.s.bm.getD c []) choice),cy ba b v (fa r w),F])
     rw[show fa r w=({r with s:=(r.s.want w.mutex.toNat w.who).2 }:RA).free w.who.toNat 0 from by unfold fa;exact if_pos h89]
     exact fun w s=>aM.kept .auto w s
   ·refine .fr (A:=bP b v (r.s.want w.mutex.toNat w.who).2) .auto bu ?_
    refine .draw [] [1,1,1,1,1,1,1,1,1,1,3] rfl (by kernel_rfl) ?_
    refine J 3 ?_
    refine .p (.ix j rfl rfl rfl (by omega)) ?_
    refine J 1 ?_
    refine .p (.dC (Y.load isAgg3 rfl (Cell.yn Rd.s hwj (by rfl))) (show w.who=((w.who.toNat:Nat):Int) by omega)) ?_
    refine J 2 ?_
    refine .p (.aE w.who.toNat underlying54 sizeOf53 rfl rfl rfl (by omega)) ?_
    refine J 1 ?_
    refine .d3 rfl (af.Gw sizeOf3 rfl rfl (by first | omega | exact hn)) ?_
    rintro _ _ ⟨rfl,rfl⟩
    refine J 8 ?_
    refine .bB (j+1,fa r w) .auto rfl ?_ ?_ ?_ ?_
    ·show(fk a (a.s.bm.getD c []) choice).length-(j+1)<(fk a (a.s.bm.getD c []) choice).length-j;omega
    ·exact hS.next hwj
    ·exact⟨rfl,trivial⟩
    ·show ∀ w_,Sat _ w_ _→Sat _ w_ (seps [sl cF 2 uO (fk a (a.s.bm.getD c []) choice),cy ba b v (fa r w),F])
     rw[show fa r w = {r with s:=(r.s.want w.mutex.toNat w.who).2.aj w.who.toNat {(r.s.want w.mutex.toNat w.who).2.t w.who.toNat with why:=1 } } from by unfold fa;exact if_neg (by rw[h89];simp)]
     exact fun w s=>aM.kept .auto w s
  ·refine J 4 ?_
   rw[tQ,hS.done (by omega)]
   exact JR 0 ()
end Go.SLYtefdijgllbkmfaaGreat
namespace Go.SLYtefdijgllbkmfaaGreat
open Go Go.RowKit
structure tR(a:RA):Prop where
 n:a.n<16
 T:fM a.s
 l:a.late.length≤400000
 w:a.e.aC.length≤400000
 r:a.s.av.length≤890000000
 I:ja a.i
 nn:a.i.n≤1099511627776
 ml:a.s.aG.length≤1000000
 mw:∀ x∈a.s.aG,x.wait.length≤1000000∧ ∀ w∈x.wait,0≤w∧w<16
 cl:a.s.bm.length≤1000000
 cw:∀ x∈a.s.bm,x.length≤100000∧ ∀ w∈x,(0≤w.who∧w.who<16)∧0≤w.mutex∧w.mutex<(a.s.aG.length:Int)
 sl:a.s.cf.length≤1000000∧a.s.sw.length=a.s.cf.length
 sc:∀ x∈a.s.cf,0≤x∧x≤1048576
 sw:∀ x∈a.s.sw,x.length≤1000000∧ ∀ w∈x,0≤w∧w<16
 pl:a.s.js.length≤1000000
 pw:∀ u∈a.s.js,u.words.length≤1000000∧u.bN.length≤1000000∧u.bC.length≤1000000∧(∀ w∈u.words,0≤w∧w≤18446744073709551615)∧(∀ w∈u.bN,0≤w.who∧w.who<16)∧ ∀ w∈u.bC,0≤w∧w<16
 bl:a.s.blk.length≤1000000
 al:a.s.ask.length≤1000000
 nw:0≤a.s.now∧a.s.now≤1099511627776
 o1:a.i.op=25∨a.i.op=26→a.i.n<(a.s.aG.length:Int)
 o2:a.i.op=27→a.i.c<(a.s.aG.length:Int)∧a.i.n<(a.s.bm.length:Int)
 o3:a.i.op=28∨a.i.op=29→a.i.n<(a.s.bm.length:Int)
 o4:a.i.op=30∨a.i.op=31→a.i.n<(a.s.cf.length:Int)
 o5:a.i.op=35∨a.i.op=36→a.i.n<(a.s.js.length:Int)
 oo:20≤a.i.op∧a.i.op≤38
section
variable{a:RA}{choice:Int}{x:gh}
def RA.w(a:RA)(s:RSp):RA:={a with s:=s }
theorem xB(h:a.i.op=25)(hx:a.s.aG[a.i.n.toNat]?=some x)(ho:x.owner=(a.n:Int)+1):a.gate choice=a.done a.i.n 0 4:=by
 unfold RA.gate;simp only[bH hx];exact(if_pos h).trans (if_pos ho)
theorem xC(h:a.i.op=25)(hx:a.s.aG[a.i.n.toNat]?=some x)(ho:¬x.owner=(a.n:Int)+1)(hw:(a.s.want a.i.n.toNat a.n).1=true):a.gate choice=(a.w (a.s.want a.i.n.toNat a.n).2).done a.i.n 0 0:=by
 unfold RA.gate;simp only[bH hx];exact(if_pos h).trans ((if_neg ho).trans (if_pos hw))
theorem sa(h:a.i.op=25)(hx:a.s.aG[a.i.n.toNat]?=some x)(ho:¬x.owner=(a.n:Int)+1)(hw:(a.s.want a.i.n.toNat a.n).1=false):a.gate choice=(a.w (a.s.want a.i.n.toNat a.n).2).stop 1 0 a.i.n 0:=by
 unfold RA.gate;simp only[bH hx];exact(if_pos h).trans ((if_neg ho).trans (if_neg (by rw[hw];simp)))
theorem xD(h:a.i.op=26)(hx:a.s.aG[a.i.n.toNat]?=some x)(ho:¬x.owner=(a.n:Int)+1):a.gate choice=a.done a.i.n 0 5:=by
 unfold RA.gate;simp only[bH hx];exact(if_neg (by omega)).trans ((if_pos h).trans (if_pos ho))
theorem pP(h:a.i.op=26)(hx:a.s.aG[a.i.n.toNat]?=some x)(ho:¬¬x.owner=(a.n:Int)+1):a.gate choice=((a.w (a.s.open a.i.n.toNat choice).2).done a.i.n 0 0).mM (a.s.open a.i.n.toNat choice).1:=by
 unfold RA.gate;simp only[bH hx];exact(if_neg (by omega)).trans ((if_pos h).trans (if_neg ho))
theorem tS(h:a.i.op=27)(hx:a.s.aG[a.i.c.toNat]?=some x)(ho:¬x.owner=(a.n:Int)+1):a.gate choice=a.done a.i.n (gL a.i.c) 5:=by
 unfold RA.gate;simp only[bH hx];exact(if_neg (by omega)).trans ((if_neg (by omega)).trans ((if_pos h).trans (if_pos ho)))
def RSp.queue(s:RSp)(m:Nat)(w:cV):RSp:={s with bm:=s.bm.set m (s.bm.getD m []++[w]) }
theorem pQ(h:a.i.op=27)(hx:a.s.aG[a.i.c.toNat]?=some x)(ho:¬¬x.owner=(a.n:Int)+1):a.gate choice=((a.w ((a.s.open a.i.c.toNat choice).2.queue a.i.n.toNat ⟨a.n,a.i.c⟩)).stop 2 0 a.i.n (gL a.i.c)).mM (a.s.open a.i.c.toNat choice).1:=by
 unfold RA.gate;simp only[bH hx];exact(if_neg (by omega)).trans ((if_neg (by omega)).trans ((if_pos h).trans (if_neg ho)))
theorem xE(h1:¬a.i.op=25)(h2:¬a.i.op=26)(h3:¬a.i.op=27):a.gate choice=a.signal a.i.n.toNat choice:=by
 unfold RA.gate;exact(if_neg h1).trans ((if_neg h2).trans (if_neg h3))
theorem oP{s:RSp}{m:Nat}{c:Int}(h:∀ x∈s.aG,x.wait.length≤1000000∧ ∀ w∈x.wait,0≤w∧w<16):0≤(s.open m c).1∧(s.open m c).1≤16∧(s.open m c).2.thr=s.thr∧(s.open m c).2.av=s.av∧(s.open m c).2.bm=s.bm:=by
 unfold RSp.open;simp only
 split
 ·exact⟨Int.le_refl 0,(by decide:(0:Int)≤16),rfl,rfl,rfl⟩
 ·rename_i hl
  have hp:pick c (s.aG.getD m ⟨0,[]⟩).wait.length<(s.aG.getD m ⟨0,[]⟩).wait.length:=eY (by omega)
  have hm:=List.mem_of_getElem? (getD_some (d:=(0:Int)) hp)
  have hx:∀ w∈(s.aG.getD m ⟨0,[]⟩).wait,0≤w∧w<16:=by
   rw[List.getD_eq_getElem?_getD]
   cases e:s.aG[m]? with
   | none=>intro w hw;cases hw
   | some z=>exact(h z (List.mem_of_getElem? e)).2
  have:=hx _ hm
  exact⟨by omega,by omega,rfl,rfl,rfl⟩
end
section
variable{a:RA}{choice:Int}
theorem AQ(h:0<(a.s.sw.getD a.i.n.toNat []).length):a.up choice=((a.w {a.s with sw:=a.s.sw.set a.i.n.toNat ((a.s.sw.getD a.i.n.toNat []).eraseIdx (pick choice (a.s.sw.getD a.i.n.toNat []).length)) }).done a.i.n 0 0).free ((a.s.sw.getD a.i.n.toNat []).getD (pick choice (a.s.sw.getD a.i.n.toNat []).length) 0).toNat 0:=by
 unfold RA.up;exact if_pos h
theorem AR(h:¬ 0<(a.s.sw.getD a.i.n.toNat []).length)(h2:a.s.cf.getD a.i.n.toNat 0=1048576):a.up choice=a.done a.i.n 0 2:=by
 unfold RA.up;exact(if_neg h).trans (if_pos h2)
theorem HA(h:¬ 0<(a.s.sw.getD a.i.n.toNat []).length)(h2:¬a.s.cf.getD a.i.n.toNat 0=1048576):a.up choice=(a.w {a.s with cf:=a.s.cf.set a.i.n.toNat (a.s.cf.getD a.i.n.toNat 0+1) }).done a.i.n 0 0:=by
 unfold RA.up;exact(if_neg h).trans (if_neg h2)
theorem AS(h:0<a.s.cf.getD a.i.n.toNat 0):a.down=(a.w {a.s with cf:=a.s.cf.set a.i.n.toNat (a.s.cf.getD a.i.n.toNat 0-1) }).done a.i.n 0 0:=by unfold RA.down;exact if_pos h
theorem tT(h:¬ 0<a.s.cf.getD a.i.n.toNat 0):a.down=(a.w {a.s with sw:=a.s.sw.set a.i.n.toNat (a.s.sw.getD a.i.n.toNat []++[(a.n:Int)]) }).stop 3 0 a.i.n 0:=by unfold RA.down;exact if_neg h
def RSp.oe(s:RSp)(k:Nat)(u:Tub):RSp:={s with js:=s.js.set k u }
variable{u:Tub}{x w:Int}{r:List Int}{p:Ptr}{q:List Ptr}
theorem tU(hu:a.s.js[a.i.n.toNat]?=some u)(h:u.bC.length=0∧(u.words.length:Int)=u.room):a.putP x=(a.w (a.s.oe a.i.n.toNat {u with bN:=u.bN++[⟨a.n,x⟩] })).stop 7 0 a.i.n x:=by
 unfold RA.putP RA.pipe;simp only[bH hu];exact if_pos h
theorem tV(hu:a.s.js[a.i.n.toNat]?=some u)(h:¬(u.bC.length=0∧(u.words.length:Int)=u.room))(hg:u.bC=w::r):a.putP x=((a.done a.i.n x 0).w ((a.done a.i.n x 0).s.oe a.i.n.toNat {u with bC:=r })).free w.toNat x:=by
 unfold RA.putP RA.pipe;simp only[bH hu];refine(if_neg h).trans ?_;rw[hg];rfl
theorem xF(hu:a.s.js[a.i.n.toNat]?=some u)(h:¬(u.bC.length=0∧(u.words.length:Int)=u.room))(hg:u.bC=[]):a.putP x=(a.done a.i.n x 0).w ((a.done a.i.n x 0).s.oe a.i.n.toNat {u with words:=u.words++[x] }):=by
 unfold RA.putP RA.pipe;simp only[bH hu];refine(if_neg h).trans ?_;rw[hg];rfl
theorem tW(hu:a.s.js[a.i.n.toNat]?=some u)(h:u.words=[]):a.getP=(a.w (a.s.oe a.i.n.toNat {u with bC:=u.bC++[(a.n:Int)] })).stop 6 (a.i.a+1) a.i.n 0:=by
 unfold RA.getP RA.pipe;simp only[bH hu];rw[h];rfl
def RA.yh(a:RA)(u:Tub)(x:Int)(r:List Int):RA:=((a.w (a.s.oe a.i.n.toNat {u with words:=r })).aj (a.t.put a.i.a x)).done a.i.n x 0
theorem AU(hu:a.s.js[a.i.n.toNat]?=some u)(h:u.words=x::r)(hp:u.bN=[]):a.getP=a.yh u x r:=by
 obtain⟨e1,e2,e3,e4⟩:=u
 simp only at h hp
 subst h hp
 unfold RA.getP RA.pipe;simp only[bH hu];rfl
theorem tX(hu:a.s.js[a.i.n.toNat]?=some u)(h:u.words=x::r)(hp:u.bN=p::q):a.getP=((a.yh u x r).w ((a.yh u x r).s.oe a.i.n.toNat {u with words:=r++[p.x],bN:=q })).free p.who.toNat 0:=by
 obtain⟨e1,e2,e3,e4⟩:=u
 simp only at h hp
 subst h hp
 unfold RA.getP RA.pipe;simp only[bH hu];rfl
end
theorem xG{α:Type}{x:α}{r:List α}:([]++((x::r).take (x::r).length).drop 1)=r:=by rw[List.take_length];rfl
theorem oQ{α:Type}{x:α}{r:List α}:([]:List α).length+(((x::r).take (x::r).length).drop 1).length=r.length:=by rw[List.take_length];simp
theorem l3{b o:Nat}{u:Tub}{v1 v2 v3:Value}:∀ h,seps [arr b o [.int .i64 u.room,v1,v2,v3],sl bM 1 v1 u.words,sl eJ 2 v2 u.bN,sl aH 1 v3 u.bC] h→cB dM dN b o u h:=fun h a=>by
 refine⟨(v1,v2,v3),trivial,?_⟩
 rw[ic]
 exact a
section
variable{a:RA}{x y:Int}
theorem IH(h:a.i.op=33):a.kernel x y=a.aO y 0 (a.i.a+1):=by unfold RA.kernel;exact if_pos h
theorem II(h:a.i.op=34):a.kernel x y=a.aO x y 0:=by unfold RA.kernel;exact(if_neg (by omega)).trans (if_pos h)
theorem GA(h:a.i.op=35):a.kernel x y=a.putP x:=by unfold RA.kernel;exact(if_neg (by omega)).trans ((if_neg (by omega)).trans (if_pos h))
theorem JY(h:a.i.op=36):a.kernel x y=a.getP:=by unfold RA.kernel;exact(if_neg (by omega)).trans ((if_neg (by omega)).trans ((if_neg (by omega)).trans (if_pos h)))
theorem EM(h:a.i.op=37):a.kernel x y=a.sleep x:=by unfold RA.kernel;exact(if_neg (by omega)).trans ((if_neg (by omega)).trans ((if_neg (by omega)).trans ((if_neg (by omega)).trans (if_pos h))))
theorem JZ(h1:¬a.i.op=33)(h2:¬a.i.op=34)(h3:¬a.i.op=35)(h4:¬a.i.op=36)(h5:¬a.i.op=37):a.kernel x y=a.done x 0 0:=by unfold RA.kernel;exact(if_neg h1).trans ((if_neg h2).trans ((if_neg h3).trans ((if_neg h4).trans (if_neg h5))))
theorem vU{bk w into:Int}(h:(a.s.blk.length:Int)≤bk):a.aO bk w into=a.done bk w 1:=by unfold RA.aO;exact if_pos h
theorem vV{bk w into:Int}(h:¬(a.s.blk.length:Int)≤bk):a.aO bk w into=(a.w {a.s with ask:=a.s.ask++[⟨a.n,bk,decide (a.i.op=34),w⟩] }).stop 5 into bk w:=by unfold RA.aO;exact if_neg h
theorem AV(h:x=0):a.sleep x=a.done x 0 0:=by unfold RA.sleep;exact if_pos h
theorem tY(h:¬x=0)(h2:1099511627776<x):a.sleep x=a.done x 0 1:=by unfold RA.sleep;exact(if_neg h).trans (if_pos h2)
theorem sb(h:¬x=0)(h2:¬ 1099511627776<x){t:Int}(ht:min (a.s.now+x) 1099511627776+1=t):a.sleep x=(a.w {a.s with til:=dP a.s.til a.n t }).stop 8 0 x 0:=by unfold RA.sleep;rw[← ht];exact(if_neg h).trans (if_neg h2)
end
theorem tZ{s:RSp}{m:Nat}{who:Int}:(s.want m who).2.av=s.av:=by unfold RSp.want;simp only;split <;> rfl
theorem ub{a:RA}{w:Int}(h:0<w):a.mM w=a.free (w-1).toNat 0:=by unfold RA.mM;rw[if_pos h]
theorem xH{a:RA}{w:Int}(h:¬ 0<w):a.mM w=a:=by unfold RA.mM;rw[if_neg h]
theorem wh.put{t:RT}(h:wh t){a v:Int}(hv:0≤v∧v≤18446744073709551615):wh (t.put a v):=⟨fun k=>by
  show 0≤dP t.aq a.toNat v k∧dP t.aq a.toNat v k≤_
  unfold dP;split;exact hv;exact h.r k,h.i,h.j,h.p,h.v⟩
theorem fM.done{a:RA}(h:fM a.s){x y e:Int}(he:0≤e∧e≤11):fM (a.done x y e).s:=h.dP (n:=a.n) (t:=a.t.put 7 e) rfl ((h a.n).put ⟨he.1,by omega⟩)
theorem fM.stop{a:RA}(h:fM a.s){why into x y:Int}(hi:0≤into∧into≤8):fM (a.stop why into x y).s:=h.dP (n:=a.n) (t:={a.t with why:=why,op:=a.i.op,into:=into }) rfl ⟨(h a.n).r,hi,(h a.n).j,(h a.n).p,(h a.n).v⟩
end Go.SLYtefdijgllbkmfaaGreat
namespace Go.SLYtefdijgllbkmfaaGreat
open Go Go.RowKit Go.Proofs Go.Proofs.Tryz
attribute [local irreducible] ax aP bA cp bF Y
set_option maxHeartbeats 1000000 in
theorem l4{W:World}{ba b:Nat}{v:RV}{a:RA}{choice:Int}(hk:tR a)(hop:25≤a.i.op∧a.i.op≤29):Fn Tryz.prog W 132 [ptr ba,.int .i64 choice] [cy ba b v a] Unit (fun _=>.tuple #[]) (fun _=>True) (fun _=>[cy ba b v (a.gate choice)]):=by
 refine Fn.intro (N:=159) func132 rfl ntmps132 rfl fun F=>?_
 show ax _ _ _ _ _ _ [cy ba b v a,F]
 refine .o2 (C:=cy ba b v (a)) .auto rfl ?_
 rintro vw vl -
 refine .fr (A:=bP b v (a).s) .auto bu ?_
 have hn:=hk.n
 have hnn:=hk.nn
 have hI:=hk.I
 have hIn:=hI.n
 have hIc:=hI.c
 refine J 1 ?_
 refine .draw [arr ba 0 (kX b (a) vw vl)] [0,0,0,0,0,0,0,0,2,1,3] rfl (by kernel_rfl) ?_
 refine J 7 ?_
 refine .q (.la rfl (Cells.iE (ds:=dq a.i) (Cells.a (cs:=kX b a vw vl)) rfl)) ?_
 refine .d2 rfl Kept.auto (af.alloc rfl zeroValue131 rfl) (by rintro _ _ ⟨b5,rfl,rfl⟩;exact Kept.auto) ?_
 rintro _ _ ⟨b5,rfl,rfl⟩
 refine J 1 ?_
 refine .d3 rfl (af.sY (by exact sizeOf131) rfl rfl rfl (by rfl)) ?_
 rintro _ _ ⟨rfl,rfl⟩
 refine J 6 ?_
 refine .p (.dC (Y.gq underlying38 underlying3 rfl (by omega)) (show a.i.n=((a.i.n.toNat:Nat):Int) by omega)) ?_
 refine JD 16 (fun h26=>?_) fun h26=>?_
 ·refine J 1 ?_
  refine .draw [] [1,1,1,1,1,1,1,1,1,1,1,1,1,1] rfl (by kernel_rfl) ?_
  have hlt:a.i.n.toNat<(a.s).aG.length:=by have h1:=hk.o1 (.inl h26);have h2:=hk.I.n;have h3:=hk.I.c;omega
  obtain⟨x,hx⟩:=aB hlt
  have hxw:=hk.mw x (List.mem_of_getElem? hx)
  refine .o1 (C:=zk b (a.s).aG) .auto rfl ?_
  rintro vM -
  refine .eS (fun w st=>st.fact .auto (eO (Nat.lt_of_le_of_lt (Nat.zero_le _) hlt))) fun hS=>?_
  refine .fr .auto (fL (enc:=dY) (k:=2) (inner:=ec) (fun _=>rfl) hx) ?_
  refine .o1 (C:=cB dY ec (blk vM) (cz vM+a.i.n.toNat * 2) x) .auto rfl ?_
  rintro uw -
  rw[show ec (uw,x)=sl aH 1 uw x.wait from rfl,show dY (uw,x)=[.int .i64 x.owner,uw] from rfl]
  refine J 5 ?_
  refine .p (.sL a.i.n.toNat underlying56 sizeOf287 rfl rfl hS rfl hlt) ?_
  refine JD 10 (fun h41=>?_) fun h41=>?_
  ·refine J 4 ?_
   refine .to (A:=eD dY 2 ec vM (a.s).aG) (Bs:=[cB dY ec (blk vM) (cz vM+a.i.n.toNat * 2) x,gK dY 2 ec vM (a.s).aG a.i.n.toNat]) .auto (gi hx) ?_
   refine .c call129 rfl (cv (a:=a) (x:=a.i.n) (y:=0) (e:=4) hk.n (by have:=hk.r;omega) (by decide)) fun _ _=>?_
   refine J 2 ?_
   rw[xB h26 hx h41]
   exact JR 0 ()
  ·refine J 8 ?_
   refine .to (A:=eD dY 2 ec vM (a.s).aG) (Bs:=[cB dY ec (blk vM) (cz vM+a.i.n.toNat * 2) x,gK dY 2 ec vM (a.s).aG a.i.n.toNat]) .auto (gi hx) ?_
   refine .c call185 rfl (xz (s:=a.s) (m:=a.i.n.toNat) (who:=(a.n:Int)) hx hk.ml (by omega) (by have:=hk.n;omega)) fun _ _=>?_
   refine JD 2 (fun h52=>?_) fun h52=>?_
   ·refine J 4 ?_
    refine .c call129 rfl (cv (a:=(a.w (a.s.want a.i.n.toNat a.n).2)) (x:=a.i.n) (y:=0) (e:=0) hk.n (by rw[show(a.w (a.s.want a.i.n.toNat a.n).2).s.av=a.s.av from tZ];have:=hk.r;omega) (by decide)) fun _ _=>?_
    refine J 2 ?_
    rw[xC h26 hx h41 h52]
    exact JR 0 ()
   ·refine J 4 ?_
    refine .c call133 rfl (gj (a:=(a.w (a.s.want a.i.n.toNat a.n).2)) (why:=1) (into:=0) (x:=a.i.n) (y:=0) hk.n (by rw[show(a.w (a.s.want a.i.n.toNat a.n).2).s.av=a.s.av from tZ];have:=hk.r;omega)) fun _ _=>?_
    refine J 2 ?_
    rw[sa h26 hx h41 h52]
    exact JR 0 ()
 ·refine JD 6 (fun h61=>?_) fun h61=>?_
  ·refine J 2 ?_
   refine .draw [] [1,1,1,1,1,1,1,1,1,1,1,1,1,1] rfl (by kernel_rfl) ?_
   have hlt:a.i.n.toNat<(a.s).aG.length:=by have h1:=hk.o1 (.inr h61);have h2:=hk.I.n;have h3:=hk.I.c;omega
   obtain⟨x,hx⟩:=aB hlt
   have hxw:=hk.mw x (List.mem_of_getElem? hx)
   refine .o1 (C:=zk b (a.s).aG) .auto rfl ?_
   rintro vM -
   refine .eS (fun w st=>st.fact .auto (eO (Nat.lt_of_le_of_lt (Nat.zero_le _) hlt))) fun hS=>?_
   refine .fr .auto (fL (enc:=dY) (k:=2) (inner:=ec) (fun _=>rfl) hx) ?_
   refine .o1 (C:=cB dY ec (blk vM) (cz vM+a.i.n.toNat * 2) x) .auto rfl ?_
   rintro uw -
   rw[show ec (uw,x)=sl aH 1 uw x.wait from rfl,show dY (uw,x)=[.int .i64 x.owner,uw] from rfl]
   refine J 5 ?_
   refine .p (.sL a.i.n.toNat underlying56 sizeOf287 rfl rfl hS rfl hlt) ?_
   refine JD 10 (fun h76=>?_) fun h76=>?_
   ·refine J 5 ?_
    refine .to (A:=eD dY 2 ec vM (a.s).aG) (Bs:=[cB dY ec (blk vM) (cz vM+a.i.n.toNat * 2) x,gK dY 2 ec vM (a.s).aG a.i.n.toNat]) .auto (gi hx) ?_
    refine .c call129 rfl (cv (a:=a) (x:=a.i.n) (y:=0) (e:=5) hk.n (by have:=hk.r;omega) (by decide)) fun _ _=>?_
    refine J 5 ?_
    rw[xD h61 hx h76]
    exact JR 0 ()
   ·refine J 7 ?_
    refine .to (A:=eD dY 2 ec vM (a.s).aG) (Bs:=[cB dY ec (blk vM) (cz vM+a.i.n.toNat * 2) x,gK dY 2 ec vM (a.s).aG a.i.n.toNat]) .auto (gi hx) ?_
    refine .c call186 rfl (xA (s:=a.s) (m:=a.i.n.toNat) (choice:=choice) hx hk.ml (by omega) hxw.2) fun _ _=>?_
    refine J 8 ?_
    refine .c call129 rfl (cv (a:=(a.w (a.s.open a.i.n.toNat choice).2)) (x:=a.i.n) (y:=0) (e:=0) hk.n (by rw[show(a.w (a.s.open a.i.n.toNat choice).2).s.av=a.s.av from(oP hk.mw).2.2.2.1];have:=hk.r;omega) (by decide)) fun _ _=>?_
    refine J 8 ?_
    have horg:=oP (c:=choice) (m:=a.i.n.toNat) hk.mw
    have hTq:fM ((a.w (a.s.open a.i.n.toNat choice).2).done a.i.n 0 0).s:=fM.done (fun m=>by rw[show(a.w (a.s.open a.i.n.toNat choice).2).s.thr=a.s.thr from horg.2.2.1];exact hk.T m) (by decide)
    refine JD 0 (fun h90=>?_) fun h90=>?_
    ·refine J 3 ?_
     refine .p (.dC (Y.sub rfl rfl (by have:=horg;omega)) (show(a.s.open a.i.n.toNat choice).1-1=((((a.s.open a.i.n.toNat choice).1-1).toNat:Nat):Int) by have:=horg;omega)) ?_
     refine .c call126 rfl (jl (a:=((a.w (a.s.open a.i.n.toNat choice).2).done a.i.n 0 0)) (n:=((a.s.open a.i.n.toNat choice).1-1).toNat) (y:=0) (by have:=horg;omega) (hTq _).i (by show a.late.length≤_;have:=hk.l;omega) (by show a.e.aC.length≤_;have:=hk.w;omega)) fun _ _=>?_
     refine J 2 ?_
     rw[pP h61 hx h76,ub h90]
     exact JR 0 ()
    ·refine J 2 ?_
     rw[pP h61 hx h76,xH h90]
     exact JR 0 ()
  ·refine JD 6 (fun h95=>?_) fun h95=>?_
   ·refine J 2 ?_
    refine .draw [] [1,1,1,1,1,1,1,1,1,1,1,1,1,1,1] rfl (by kernel_rfl) ?_
    have hlt:a.i.c.toNat<(a.s).aG.length:=by have h1:=(hk.o2 h95).1;have h2:=hk.I.n;have h3:=hk.I.c;omega
    obtain⟨x,hx⟩:=aB hlt
    have hxw:=hk.mw x (List.mem_of_getElem? hx)
    refine .o1 (C:=zk b (a.s).aG) .auto rfl ?_
    rintro vM -
    refine .eS (fun w st=>st.fact .auto (eO (Nat.lt_of_le_of_lt (Nat.zero_le _) hlt))) fun hS=>?_
    refine .fr .auto (fL (enc:=dY) (k:=2) (inner:=ec) (fun _=>rfl) hx) ?_
    refine .o1 (C:=cB dY ec (blk vM) (cz vM+a.i.c.toNat * 2) x) .auto rfl ?_
    rintro uw -
    rw[show ec (uw,x)=sl aH 1 uw x.wait from rfl,show dY (uw,x)=[.int .i64 x.owner,uw] from rfl]
    refine J 5 ?_
    refine .p (.dC (Y.load isAgg3 rfl (Cell.a (cs:=dq a.i) rfl)) (show a.i.c=((a.i.c.toNat:Nat):Int) by omega)) ?_
    refine .p (.sL a.i.c.toNat underlying56 sizeOf287 rfl rfl hS rfl hlt) ?_
    refine JD 10 (fun h111=>?_) fun h111=>?_
    ·refine J 7 ?_
     refine .p (.dC (Y.fW underlying3 underlying38 rfl (by omega)) (show a.i.c=gL a.i.c by unfold gL;omega)) ?_
     refine .to (A:=eD dY 2 ec vM (a.s).aG) (Bs:=[cB dY ec (blk vM) (cz vM+a.i.c.toNat * 2) x,gK dY 2 ec vM (a.s).aG a.i.c.toNat]) .auto (gi hx) ?_
     refine .c call129 rfl (cv (a:=a) (x:=a.i.n) (y:=(gL a.i.c)) (e:=5) hk.n (by have:=hk.r;omega) (by decide)) fun _ _=>?_
     refine J 5 ?_
     rw[tS h95 hx h111]
     exact JR 0 ()
    ·refine J 6 ?_
     refine .p (.dC (Y.load isAgg3 rfl (Cell.a (cs:=dq a.i) rfl)) (show a.i.c=((a.i.c.toNat:Nat):Int) by omega)) ?_
     refine J 1 ?_
     refine .to (A:=eD dY 2 ec vM (a.s).aG) (Bs:=[cB dY ec (blk vM) (cz vM+a.i.c.toNat * 2) x,gK dY 2 ec vM (a.s).aG a.i.c.toNat]) .auto (gi hx) ?_
     refine .c call186 rfl (xA (s:=a.s) (m:=a.i.c.toNat) (choice:=choice) hx hk.ml (by omega) hxw.2) fun _ _=>?_
     have horg:=oP (c:=choice) (m:=a.i.c.toNat) hk.mw
     have hltc:a.i.n.toNat<(a.s.open a.i.c.toNat choice).2.bm.length:=by rw[horg.2.2.2.2];have:=(hk.o2 h95).2;omega
     have hgc:(a.s.open a.i.c.toNat choice).2.bm[a.i.n.toNat]?=some ((a.s.open a.i.c.toNat choice).2.bm.getD a.i.n.toNat []):=getD_some hltc
     have hcw:=hk.cw ((a.s.open a.i.c.toNat choice).2.bm.getD a.i.n.toNat []) (by have h:=List.mem_of_getElem? hgc;rw[horg.2.2.2.2] at h ⊢;exact h)
     refine .fr (A:=bP b v (a.s.open a.i.c.toNat choice).2) .auto bu ?_
     refine .o1 (C:=Gx b (a.s.open a.i.c.toNat choice).2.bm) .auto rfl ?_
     rintro vC -
     refine .eS (fun w st=>st.fact .auto (eO (Nat.lt_of_le_of_lt (Nat.zero_le _) hltc))) fun hSC=>?_
     refine .fr .auto (fL (enc:=cj) (k:=1) (inner:=lu) (fun _=>rfl) hgc) ?_
     refine .o1 (C:=cB cj lu (blk vC) (cz vC+a.i.n.toNat * 1) ((a.s.open a.i.c.toNat choice).2.bm.getD a.i.n.toNat [])) .auto rfl ?_
     rintro uC -
     rw[show lu (uC,(a.s.open a.i.c.toNat choice).2.bm.getD a.i.n.toNat [])=sl cF 2 uC ((a.s.open a.i.c.toNat choice).2.bm.getD a.i.n.toNat []) from rfl,show cj (uC,(a.s.open a.i.c.toNat choice).2.bm.getD a.i.n.toNat [])=[uC] from rfl]
     refine J 4 ?_
     refine .draw [arr b 314 [vC],arr (blk vC) (cz vC+a.i.n.toNat * 1) [uC],arr ba 0 (kX b (a) vw vl),arr b5 0 (dq a.i)] [0,0,0,0,0,0,0,0,0,0,0,0,1,1,1,1,1,1,1,2,2,1,3] rfl (by kernel_rfl) ?_
     refine J 10 ?_
     refine .q (.sL a.i.n.toNat underlying57 sizeOf288 rfl rfl hSC rfl hltc) ?_
     refine J 7 ?_
     refine .p (.gI (fun v1 v2=>[v1,v2]) rfl rfl (by kernel_rfl)) ?_
     refine .d2 rfl Kept.auto (af.gD 290 rfl rfl (by kernel_rfl)) (by rintro _ _ ⟨b143,rfl,rfl⟩;exact Kept.auto) ?_
     rintro _ _ ⟨b143,rfl,rfl⟩
     refine .d2 rfl Kept.auto (af.fj (enc:=cF) (k:=2) (⟨a.n,a.i.c⟩:cV) rfl underlying288 underlying288 typeInfo290 rfl rfl rfl (by decide) rfl rfl rfl .auto rfl .auto (by have:=hcw.1;omega) rfl) (by rintro _ _ ⟨v144,rfl,rfl⟩;exact Kept.auto) ?_
     rintro _ _ ⟨v144,rfl,rfl⟩
     refine .p (.sL a.i.n.toNat underlying57 sizeOf288 rfl rfl hSC rfl hltc) ?_
     refine .d3 rfl (af.mU sizeOf288 rfl rfl rfl) ?_
     rintro _ _ ⟨rfl,rfl⟩
     refine J 9 ?_
     refine .p (.dC (Y.fW underlying3 underlying38 rfl (by omega)) (show a.i.c=gL a.i.c by unfold gL;omega)) ?_
     refine .to (A:=eD cj 1 lu vC ((a.s.open a.i.c.toNat choice).2.bm.set a.i.n.toNat ((a.s.open a.i.c.toNat choice).2.bm.getD a.i.n.toNat []++[⟨a.n,a.i.c⟩]))) (Bs:=[cB cj lu (blk vC) (cz vC+a.i.n.toNat * 1) ((a.s.open a.i.c.toNat choice).2.bm.getD a.i.n.toNat []++[⟨a.n,a.i.c⟩]),gK cj 1 lu vC (a.s.open a.i.c.toNat choice).2.bm a.i.n.toNat]) .auto (fV ((a.s.open a.i.c.toNat choice).2.bm.getD a.i.n.toNat []++[⟨a.n,a.i.c⟩])) ?_
     refine .c call133 rfl (gj (a:=(a.w ((a.s.open a.i.c.toNat choice).2.queue a.i.n.toNat ⟨a.n,a.i.c⟩))) (why:=2) (into:=0) (x:=a.i.n) (y:=(gL a.i.c)) hk.n (by rw[show(a.w ((a.s.open a.i.c.toNat choice).2.queue a.i.n.toNat ⟨a.n,a.i.c⟩)).s.av=a.s.av from(oP hk.mw).2.2.2.1];have:=hk.r;omega)) fun _ _=>?_
     refine J 8 ?_
     have hTq:fM ((a.w ((a.s.open a.i.c.toNat choice).2.queue a.i.n.toNat ⟨a.n,a.i.c⟩)).stop 2 0 a.i.n (gL a.i.c)).s:=fM.stop (fun m=>by rw[show(a.w ((a.s.open a.i.c.toNat choice).2.queue a.i.n.toNat ⟨a.n,a.i.c⟩)).s.thr=a.s.thr from horg.2.2.1];exact hk.T m) (by decide)
     refine JD 0 (fun h154=>?_) fun h154=>?_
     ·refine J 3 ?_
      refine .p (.dC (Y.sub rfl rfl (by have:=horg;omega)) (show(a.s.open a.i.c.toNat choice).1-1=((((a.s.open a.i.c.toNat choice).1-1).toNat:Nat):Int) by have:=horg;omega)) ?_
      refine .c call126 rfl (jl (a:=((a.w ((a.s.open a.i.c.toNat choice).2.queue a.i.n.toNat ⟨a.n,a.i.c⟩)).stop 2 0 a.i.n (gL a.i.c))) (n:=((a.s.open a.i.c.toNat choice).1-1).toNat) (y:=0) (by have:=horg;omega) (hTq _).i (by show a.late.length≤_;have:=hk.l;omega) (by show a.e.aC.length≤_;have:=hk.w;omega)) fun _ _=>?_
      refine J 2 ?_
      rw[pQ h95 hx h111,ub h154]
      exact JR 0 ()
     ·refine J 2 ?_
      rw[pQ h95 hx h111,xH h154]
      exact JR 0 ()
   ·refine J 4 ?_
    refine .c call187 rfl (zl (a:=a) (c:=a.i.n.toNat) (choice:=choice) hk.n hk.T (by have:=hk.l;omega) (by have:=hk.w;omega) (by have:=hk.r;omega) (by have:=hk.o3 (by omega);omega) hk.cl (by exact(hk.cw _ (List.mem_of_getElem? (getD_some (d:=([]:List cV)) (show a.i.n.toNat<a.s.bm.length by have:=hk.o3 (by omega);omega)))).1) hk.ml (fun x hx=>(hk.mw x hx).1) (by exact(hk.cw _ (List.mem_of_getElem? (getD_some (d:=([]:List cV)) (show a.i.n.toNat<a.s.bm.length by have:=hk.o3 (by omega);omega)))).2)) fun _ _=>?_
    refine J 2 ?_
    rw[xE h26 h61 h95]
    exact JR 0 ()
theorem IJ{W:World}{ba b:Nat}{v:RV}{a:RA}{choice:Int}(hk:tR a)(hop:a.i.op=31):Fn Tryz.prog W 134 [ptr ba,.int .i64 choice] [cy ba b v a] Unit (fun _=>.tuple #[]) (fun _=>True) (fun _=>[cy ba b v (a.up choice)]):=by
 refine Fn.intro (N:=74) func134 rfl ntmps134 rfl fun F=>?_
 show ax _ _ _ _ _ _ [cy ba b v a,F]
 refine .o2 (C:=cy ba b v (a)) .auto rfl ?_
 rintro vw vl -
 refine .fr (A:=bP b v (a).s) .auto bu ?_
 have hn:=hk.n
 have hnn:=hk.nn
 have hI:=hk.I
 have hIn:=hI.n
 have hlt:a.i.n.toNat<a.s.sw.length:=by have:=hk.o4 (by omega);have:=hk.sl.2;omega
 have hsw:a.s.sw[a.i.n.toNat]?=some (a.s.sw.getD a.i.n.toNat []):=getD_some hlt
 have hsr:=hk.sw _ (List.mem_of_getElem? hsw)
 have hls:a.i.n.toNat<a.s.cf.length:=by have:=hk.o4 (by omega);omega
 have hse:a.s.cf[a.i.n.toNat]?=some (a.s.cf.getD a.i.n.toNat 0):=getD_some hls
 have hsv:=hk.sc _ (List.mem_of_getElem? hse)
 refine .o1 (C:=Km b a.s.sw) .auto rfl ?_
 rintro vS -
 refine .eS (fun w st=>st.fact .auto (eO (Nat.lt_of_le_of_lt (Nat.zero_le _) hlt))) fun hS=>?_
 refine .fr .auto (fL (enc:=cj) (k:=1) (inner:=jO) (fun _=>rfl) hsw) ?_
 refine .o1 (C:=cB cj jO (blk vS) (cz vS+a.i.n.toNat * 1) (a.s.sw.getD a.i.n.toNat [])) .auto rfl ?_
 rintro uS -
 rw[show jO (uS,(a.s.sw.getD a.i.n.toNat []))=sl aH 1 uS (a.s.sw.getD a.i.n.toNat []) from rfl,show cj (uS,(a.s.sw.getD a.i.n.toNat []))=[uS] from rfl]
 refine .o1 (C:=iM aH 1 b 315 a.s.cf) .auto rfl ?_
 rintro vs -
 refine J 1 ?_
 refine .draw [] [1,1,1,1,1,1,1,1,1,1,1] rfl (by kernel_rfl) ?_
 refine J 20 ?_
 refine .p (.sL a.i.n.toNat underlying58 sizeOf23 rfl rfl hS (show a.i.n=((a.i.n.toNat:Nat):Int) by omega) hlt) ?_
 refine JD 12 (fun h27=>?_) fun h27=>?_
 ·have h27:0<(a.s.sw.getD a.i.n.toNat []).length:=by omega
  refine J 2 ?_
  have hpk:(pick choice (a.s.sw.getD a.i.n.toNat []).length)<(a.s.sw.getD a.i.n.toNat []).length:=eY (by omega)
  have hww:=hsr.2 _ (List.mem_of_getElem? (getD_some (d:=(0:Int)) hpk))
  refine J 3 ?_
  refine .c call94 rfl (oL (c:=choice) (n:=(a.s.sw.getD a.i.n.toNat []).length) (by omega) (by omega)) fun _ _=>?_
  refine J 7 ?_
  refine .p (.iu (pick choice (a.s.sw.getD a.i.n.toNat []).length) underlying23 sizeOf3 rfl rfl Rd.s rfl hpk) ?_
  refine .p (.dC (Y.load isAgg3 rfl (Cell.yn Rd.s (getD_some (d:=(0:Int)) hpk) (by rfl))) (show((a.s.sw.getD a.i.n.toNat []).getD (pick choice (a.s.sw.getD a.i.n.toNat []).length) 0)=((((a.s.sw.getD a.i.n.toNat []).getD (pick choice (a.s.sw.getD a.i.n.toNat []).length) 0).toNat:Nat):Int) by omega)) ?_
  refine J 4 ?_
  refine .draw [arr b 316 [vS]] [0,0,0,0,0,1,1,2,1,3] rfl (by kernel_rfl) ?_
  refine J 7 ?_
  refine .c2 call188 rfl (l2 (A:=sl aH 1 uS (a.s.sw.getD a.i.n.toNat [])) (n:=(pick choice (a.s.sw.getD a.i.n.toNat []).length)) (Rd.sl .here) hpk (by omega)) fun u43 _=>?_
  refine .p (.sL a.i.n.toNat underlying58 sizeOf23 rfl rfl hS (show a.i.n=((a.i.n.toNat:Nat):Int) by omega) hlt) ?_
  refine .d3 rfl (af.mU sizeOf23 rfl rfl rfl) ?_
  rintro _ _ ⟨rfl,rfl⟩
  refine J 6 ?_
  refine .to (A:=eD cj 1 jO vS (a.s.sw.set a.i.n.toNat ((a.s.sw.getD a.i.n.toNat []).eraseIdx (pick choice (a.s.sw.getD a.i.n.toNat []).length)))) (Bs:=[cB cj jO (blk vS) (cz vS+a.i.n.toNat * 1) ((a.s.sw.getD a.i.n.toNat []).eraseIdx (pick choice (a.s.sw.getD a.i.n.toNat []).length)),gK cj 1 jO vS a.s.sw a.i.n.toNat]) .auto (fV ((a.s.sw.getD a.i.n.toNat []).eraseIdx (pick choice (a.s.sw.getD a.i.n.toNat []).length))) ?_
  refine .c call129 rfl (cv (a:=(a.w {a.s with sw:=a.s.sw.set a.i.n.toNat ((a.s.sw.getD a.i.n.toNat []).eraseIdx (pick choice (a.s.sw.getD a.i.n.toNat []).length)) })) (x:=a.i.n) (y:=0) (e:=0) hk.n (by show a.s.av.length≤_;have:=hk.r;omega) (by decide)) fun _ _=>?_
  refine J 6 ?_
  refine .c call126 rfl (jl (a:=((a.w {a.s with sw:=a.s.sw.set a.i.n.toNat ((a.s.sw.getD a.i.n.toNat []).eraseIdx (pick choice (a.s.sw.getD a.i.n.toNat []).length)) }).done a.i.n 0 0)) (n:=((a.s.sw.getD a.i.n.toNat []).getD (pick choice (a.s.sw.getD a.i.n.toNat []).length) 0).toNat) (y:=0) (by omega) (fM.done (a:=(a.w {a.s with sw:=a.s.sw.set a.i.n.toNat ((a.s.sw.getD a.i.n.toNat []).eraseIdx (pick choice (a.s.sw.getD a.i.n.toNat []).length)) })) hk.T (by decide) _).i (by show a.late.length≤_;have:=hk.l;omega) (by show a.e.aC.length≤_;have:=hk.w;omega)) fun _ _=>?_
  refine J 4 ?_
  rw[AQ h27]
  exact JR 0 ()
 ·have h27:¬ 0<(a.s.sw.getD a.i.n.toNat []).length:=by omega
  refine J 10 ?_
  refine .p (.iu a.i.n.toNat underlying23 sizeOf3 rfl rfl Rd.s (show a.i.n=((a.i.n.toNat:Nat):Int) by omega) hls) ?_
  refine .p (.lr rfl hse) ?_
  refine JD 3 (fun h58=>?_) fun h58=>?_
  ·refine J 4 ?_
   refine .to (A:=eD cj 1 jO vS a.s.sw) (Bs:=[cB cj jO (blk vS) (cz vS+a.i.n.toNat * 1) (a.s.sw.getD a.i.n.toNat []),gK cj 1 jO vS a.s.sw a.i.n.toNat]) .auto (gi hsw) ?_
   refine .c call129 rfl (cv (a:=a) (x:=a.i.n) (y:=0) (e:=2) hk.n (by show a.s.av.length≤_;have:=hk.r;omega) (by decide)) fun _ _=>?_
   refine J 4 ?_
   rw[AR h27 h58]
   exact JR 0 ()
  ·refine J 9 ?_
   refine .p (.iu a.i.n.toNat underlying23 sizeOf3 rfl rfl Rd.s (show a.i.n=((a.i.n.toNat:Nat):Int) by omega) hls) ?_
   refine .p (.lr rfl hse) ?_
   refine .p (.add rfl rfl (by omega)) ?_
   refine .p (.iu a.i.n.toNat underlying23 sizeOf3 rfl rfl Rd.s (show a.i.n=((a.i.n.toNat:Nat):Int) by omega) hls) ?_
   refine .aw rfl (af.gC (x':=(a.s.cf.getD a.i.n.toNat 0)+1) rfl rfl sizeOf3 rfl hse (by decide) rfl .auto) ?_
   rintro _ _ ⟨rfl,rfl⟩
   refine J 5 ?_
   refine .to (A:=eD cj 1 jO vS a.s.sw) (Bs:=[cB cj jO (blk vS) (cz vS+a.i.n.toNat * 1) (a.s.sw.getD a.i.n.toNat []),gK cj 1 jO vS a.s.sw a.i.n.toNat]) .auto (gi hsw) ?_
   refine .c call129 rfl (cv (a:=(a.w {a.s with cf:=a.s.cf.set a.i.n.toNat ((a.s.cf.getD a.i.n.toNat 0)+1) })) (x:=a.i.n) (y:=0) (e:=0) hk.n (by show a.s.av.length≤_;have:=hk.r;omega) (by decide)) fun _ _=>?_
   refine J 1 ?_
   rw[HA h27 h58]
   exact JR 0 ()
set_option maxHeartbeats 1000000 in
theorem GB{W:World}{ba b:Nat}{v:RV}{a:RA}{u:Tub}(hk:tR a)(hu:a.s.js[a.i.n.toNat]?=some u):Fn Tryz.prog W 189 [ptr ba,.pointer (some ⟨blk v.u,cz v.u+a.i.n.toNat * 4,none⟩)] [cy ba b v a] Unit (fun _=>.tuple #[]) (fun _=>True) (fun _=>[cy ba b v (a.getP)]):=by
 refine Fn.intro (N:=118) func189 rfl ntmps189 rfl fun F=>?_
 show ax _ _ _ _ _ _ [cy ba b v a,F]
 refine .o2 (C:=cy ba b v (a)) .auto rfl ?_
 rintro vw vl -
 refine .fr (A:=bP b v (a).s) .auto bu ?_
 have hn:=hk.n
 have hI:=hk.I
 have hIn:=hI.n
 have hIa:=hI.a
 have hpw:=hk.pw u (List.mem_of_getElem? hu)
 refine .fr .auto (fL (enc:=dM) (k:=4) (inner:=dN) (fun _=>rfl) hu) ?_
 refine .o1 (C:=cB dM dN (blk v.u) (cz v.u+a.i.n.toNat * 4) u) .auto rfl ?_
 rintro⟨v1,v2,v3⟩ -
 rw[show dN ((v1,v2,v3),u)=seps [sl bM 1 v1 (u).words,sl eJ 2 v2 (u).bN,sl aH 1 v3 (u).bC] from rfl,show dM ((v1,v2,v3),u)=[.int .i64 (u).room,v1,v2,v3] from rfl]
 refine .fQ .auto ?_
 refine JD 11 (fun h11=>?_) fun h11=>?_
 ·have hwd:u.words=[]:=List.eq_nil_of_length_eq_zero (by omega)
  refine J 1 ?_
  refine .draw [arr ba 0 (kX b (a) vw vl),arr (blk v.u) (cz v.u+a.i.n.toNat * 4) [.int .i64 (u).room,v1,v2,v3]] [0,0,0,0,0,1,1,1,1,2,2,1,1,3] rfl (by kernel_rfl) ?_
  refine J 9 ?_
  refine .d2 rfl Kept.auto (af.gD 3 rfl rfl (by kernel_rfl)) (by rintro _ _ ⟨b21,rfl,rfl⟩;exact Kept.auto) ?_
  rintro _ _ ⟨b21,rfl,rfl⟩
  refine .d2 rfl Kept.auto (af.fj (enc:=aH) (k:=1) (a.n:Int) rfl underlying23 underlying23 typeInfo3 rfl rfl rfl (by decide) rfl rfl rfl .auto rfl .auto (by have:=hpw.2.2.1;omega) rfl) (by rintro _ _ ⟨v22,rfl,rfl⟩;exact Kept.auto) ?_
  rintro _ _ ⟨v22,rfl,rfl⟩
  refine J 2 ?_
  refine .d3 rfl (af.uR sizeOf23 rfl rfl rfl) ?_
  rintro _ _ ⟨rfl,rfl⟩
  refine J 3 ?_
  refine .to (A:=cB dM dN (blk v.u) (cz v.u+a.i.n.toNat * 4) ({u with bC:=u.bC++[(a.n:Int)] })) (Bs:=[arr (blk v.u) (cz v.u+a.i.n.toNat * 4) [.int .i64 ({u with bC:=u.bC++[(a.n:Int)] }).room,v1,v2,v22],sl bM 1 v1 ({u with bC:=u.bC++[(a.n:Int)] }).words,sl eJ 2 v2 ({u with bC:=u.bC++[(a.n:Int)] }).bN,sl aH 1 v22 ({u with bC:=u.bC++[(a.n:Int)] }).bC]) .auto l3 ?_
  refine .to (A:=eD dM 4 dN v.u (a.s.js.set a.i.n.toNat ({u with bC:=u.bC++[(a.n:Int)] }))) (Bs:=[cB dM dN (blk v.u) (cz v.u+a.i.n.toNat * 4) ({u with bC:=u.bC++[(a.n:Int)] }),gK dM 4 dN v.u a.s.js a.i.n.toNat]) .auto (fV ({u with bC:=u.bC++[(a.n:Int)] })) ?_
  refine .draw [] [1,1,1,1,1,1,1,1,1,1,1,1,3] rfl (by kernel_rfl) ?_
  refine J 6 ?_
  refine .p (.add rfl rfl (by omega)) ?_
  refine J 5 ?_
  refine .c call133 rfl (gj (a:=(a.w (a.s.oe a.i.n.toNat {u with bC:=u.bC++[(a.n:Int)] }))) (why:=6) (into:=a.i.a+1) (x:=a.i.n) (y:=0) hk.n (by show a.s.av.length≤_;have:=hk.r;omega)) fun _ _=>?_
  refine J 4 ?_
  rw[tW hu hwd]
  exact JR 0 ()
 ·refine J 4 ?_
  obtain⟨x,r,hwd⟩:∃ x r,u.words=x::r:=by
   cases h:u.words with
   | nil=>rw[h] at h11;exact absurd rfl h11
   | cons x r=>exact⟨x,r,rfl⟩
  have hwl:=hpw.1
  have hwx:=hpw.2.2.2.1
  rw[hwd] at hwl hwx
  have hx64:=hwx x (List.mem_cons_self ..)
  rw[List.length_cons] at hwl
  rw[hwd]
  have hr0:Rd W [sl bM 1 v1 (x::r)] bM 1 v1 (x::r):=Rd.sl .here
  have hr1:=hr0.cut (lo:=1) (hi:=(x::r).length) (by simp) (Nat.le_refl _)
  haveI hI1:∀ (H:List aa) [bW H (sl bM 1 v1 (x::r))],aJ W H (cut 1 1 (x::r).length v1) bM 1 (((x::r).take (x::r).length).drop 1):=fun H h=>⟨hr1.at h.has⟩
  refine J 4 ?_
  refine .p (.ix 0 rfl rfl rfl (by simp)) ?_
  refine .p (.ld rfl (Cell.yn Rd.s (show(x::r)[0]?=some x from rfl) (by rfl))) ?_
  refine J 6 ?_
  refine .aw rfl (af.gD 38 rfl rfl (by kernel_rfl)) ?_
  rintro _ _ ⟨b45,rfl,rfl⟩
  refine .to (A:=sl bM 1 (.slice (some ⟨b45,0,none⟩) 0 0) ([]:List Int)) (Bs:=[]) .nil (fun h e=>.inl ⟨⟨_,rfl⟩,rfl,e⟩) ?_
  refine J 4 ?_
  refine .p (.sliceFrom 1 underlying55 sizeOf38 rfl rfl Rd.s rfl (by simp)) ?_
  refine .aw rfl (af.append rfl underlying55 underlying55 typeInfo38 rfl rfl rfl (by decide) rfl rfl .auto Rd.s (by rw[oQ];omega) (nK _)) ?_
  rintro _ _ ⟨v51,rfl,rfl⟩
  refine J 2 ?_
  refine .aw rfl (af.uR sizeOf55 rfl rfl rfl) ?_
  rintro _ _ ⟨rfl,rfl⟩
  refine J 3 ?_
  rw[xG]
  refine .to (A:=cB dM dN (blk v.u) (cz v.u+a.i.n.toNat * 4) ({u with words:=r })) (Bs:=[arr (blk v.u) (cz v.u+a.i.n.toNat * 4) [.int .i64 ({u with words:=r }).room,v51,v2,v3],sl bM 1 v51 ({u with words:=r }).words,sl eJ 2 v2 ({u with words:=r }).bN,sl aH 1 v3 ({u with words:=r }).bC]) .auto l3 ?_
  refine .to (A:=eD dM 4 dN v.u (a.s.js.set a.i.n.toNat ({u with words:=r }))) (Bs:=[cB dM dN (blk v.u) (cz v.u+a.i.n.toNat * 4) ({u with words:=r }),gK dM 4 dN v.u a.s.js a.i.n.toNat]) .auto (fV ({u with words:=r })) ?_
  refine .draw [] [1,1,1,1,1,1,1,1,1,1,1,1,1,1,1,1,1,1,1,3] rfl (by kernel_rfl) ?_
  refine J 16 ?_
  refine .p (.aE _ underlying54 sizeOf53 rfl rfl rfl (by first | omega | exact hn | decide)) ?_
  refine J 1 ?_
  refine .p (.aE a.i.a.toNat underlying39 sizeOf38 rfl rfl (by omega) (by omega)) ?_
  refine .d3 rfl (af.qC sizeOf38 rfl rfl (by first | omega | exact hn) (by first | omega | decide)) ?_
  rintro _ _ ⟨rfl,rfl⟩
  refine J 11 ?_
  refine .c call129 rfl (cv (a:=((a.w (a.s.oe a.i.n.toNat {u with words:=r })).aj (a.t.put a.i.a x))) (x:=a.i.n) (y:=x) (e:=0) hk.n (by show a.s.av.length≤_;have:=hk.r;omega) (by decide)) fun _ _=>?_
  refine J 4 ?_
  have hu2:(a.yh u x r).s.js[a.i.n.toNat]?=some ({u with words:=r }:Tub):=List.getElem?_set_self (List.getElem?_eq_some_iff.1 hu).1
  refine .o2 (C:=cy ba b v ((a.yh u x r))) .auto rfl ?_
  rintro vw vl -
  refine .fr (A:=bP b v ((a.yh u x r)).s) .auto bu ?_
  refine .fr .auto (fL (enc:=dM) (k:=4) (inner:=dN) (fun _=>rfl) hu2) ?_
  refine .o1 (C:=cB dM dN (blk v.u) (cz v.u+a.i.n.toNat * 4) ({u with words:=r }:Tub)) .auto rfl ?_
  rintro⟨w1,w2,w3⟩ -
  rw[show dN ((w1,w2,w3),({u with words:=r }:Tub))=seps [sl bM 1 w1 (({u with words:=r }:Tub)).words,sl eJ 2 w2 (({u with words:=r }:Tub)).bN,sl aH 1 w3 (({u with words:=r }:Tub)).bC] from rfl,show dM ((w1,w2,w3),({u with words:=r }:Tub))=[.int .i64 (({u with words:=r }:Tub)).room,w1,w2,w3] from rfl]
  refine .fQ .auto ?_
  refine JD 8 (fun h86=>?_) fun h86=>?_
  ·refine J 2 ?_
   obtain⟨p,q,hpq⟩:∃ p q,u.bN=p::q:=by
    cases h:u.bN with
    | nil=>rw[h] at h86;exact absurd h86 (by simp)
    | cons p q=>exact⟨p,q,rfl⟩
   have hpl:=hpw.2.1
   have hpx:=hpw.2.2.2.2.1
   rw[hpq] at hpl hpx
   have hp16:=hpx p (List.mem_cons_self ..)
   rw[List.length_cons] at hpl
   rw[show({u with words:=r }:Tub).bN=p::q from hpq]
   have hr0:Rd W [sl eJ 2 w2 (p::q)] eJ 2 w2 (p::q):=Rd.sl .here
   have hr1:=hr0.cut (lo:=1) (hi:=(p::q).length) (by simp) (Nat.le_refl _)
   haveI hI1:∀ (H:List aa) [bW H (sl eJ 2 w2 (p::q))],aJ W H (cut 2 1 (p::q).length w2) eJ 2 (((p::q).take (p::q).length).drop 1):=fun H h=>⟨hr1.at h.has⟩
   refine J 4 ?_
   refine .p (.ix 0 rfl rfl rfl (by simp)) ?_
   refine .p (.la rfl (Cells.rd Rd.s (show(p::q)[0]?=some p from rfl))) ?_
   refine .aw rfl (af.alloc rfl zeroValue295 rfl) ?_
   rintro _ _ ⟨b5,rfl,rfl⟩
   refine J 6 ?_
   refine .aw rfl (af.gD 295 rfl rfl (by kernel_rfl)) ?_
   rintro _ _ ⟨b94,rfl,rfl⟩
   refine .to (A:=sl eJ 2 (.slice (some ⟨b94,0,none⟩) 0 0) ([]:List Ptr)) (Bs:=[]) .nil (fun h e=>.inl ⟨⟨_,rfl⟩,rfl,e⟩) ?_
   refine J 4 ?_
   refine .p (.sliceFrom 1 underlying138 sizeOf295 rfl rfl Rd.s rfl (by simp)) ?_
   refine .aw rfl (af.append rfl underlying138 underlying138 typeInfo295 rfl rfl rfl (by decide) rfl rfl .auto Rd.s (by rw[oQ];omega) (wF _)) ?_
   rintro _ _ ⟨v100,rfl,rfl⟩
   refine J 2 ?_
   refine .aw rfl (af.uR sizeOf138 rfl rfl rfl) ?_
   rintro _ _ ⟨rfl,rfl⟩
   refine J 3 ?_
   rw[xG]
   refine .draw [arr (blk v.u) (cz v.u+a.i.n.toNat * 4) [.int .i64 u.room,w1,v100,w3],arr b5 0 (eJ p)] [0,0,0,0,0,1,1,2,2,1,1,3] rfl (by kernel_rfl) ?_
   refine J 7 ?_
   refine .d2 rfl Kept.auto (af.gD 38 rfl rfl (by kernel_rfl)) (by rintro _ _ ⟨b110,rfl,rfl⟩;exact Kept.auto) ?_
   rintro _ _ ⟨b110,rfl,rfl⟩
   refine .d2 rfl Kept.auto (af.fj (enc:=bM) (k:=1) p.x rfl underlying55 underlying55 typeInfo38 rfl rfl rfl (by decide) rfl rfl rfl .auto rfl .auto (by show r.length+1≤_;omega) rfl) (by rintro _ _ ⟨v111,rfl,rfl⟩;exact Kept.auto) ?_
   rintro _ _ ⟨v111,rfl,rfl⟩
   refine J 2 ?_
   refine .d3 rfl (af.uR sizeOf55 rfl rfl rfl) ?_
   rintro _ _ ⟨rfl,rfl⟩
   refine J 5 ?_
   refine .p (.dC (Y.load isAgg3 rfl (Cell.a (cs:=eJ p) rfl)) (show p.who=((p.who.toNat:Nat):Int) by omega)) ?_
   refine .to (A:=cB dM dN (blk v.u) (cz v.u+a.i.n.toNat * 4) ({u with words:=r++[p.x],bN:=q })) (Bs:=[arr (blk v.u) (cz v.u+a.i.n.toNat * 4) [.int .i64 ({u with words:=r++[p.x],bN:=q }).room,v111,v100,w3],sl bM 1 v111 ({u with words:=r++[p.x],bN:=q }).words,sl eJ 2 v100 ({u with words:=r++[p.x],bN:=q }).bN,sl aH 1 w3 ({u with words:=r++[p.x],bN:=q }).bC]) .auto l3 ?_
   refine .to (A:=eD dM 4 dN v.u ((a.yh u x r).s.js.set a.i.n.toNat ({u with words:=r++[p.x],bN:=q }))) (Bs:=[cB dM dN (blk v.u) (cz v.u+a.i.n.toNat * 4) ({u with words:=r++[p.x],bN:=q }),gK dM 4 dN v.u (a.yh u x r).s.js a.i.n.toNat]) .auto (fV ({u with words:=r++[p.x],bN:=q })) ?_
   refine .c call126 rfl (jl (a:=((a.yh u x r).w ((a.yh u x r).s.oe a.i.n.toNat {u with words:=r++[p.x],bN:=q }))) (n:=p.who.toNat) (y:=0) (by omega) (((hk.T.dP (s':=((a.w (a.s.oe a.i.n.toNat {u with words:=r })).aj (a.t.put a.i.a x)).s) (n:=a.n) (t:=a.t.put a.i.a x) rfl ((hk.T a.n).put hx64)).done (a:=((a.w (a.s.oe a.i.n.toNat {u with words:=r })).aj (a.t.put a.i.a x))) (x:=a.i.n) (y:=x) (e:=0) (by decide)) _).i (by show a.late.length≤_;have:=hk.l;omega) (by show a.e.aC.length≤_;have:=hk.w;omega)) fun _ _=>?_
   refine J 1 ?_
   rw[tX hu hwd hpq]
   exact JR 0 ()
  ·refine J 1 ?_
   have hpq:u.bN=[]:=List.eq_nil_of_length_eq_zero (by have h:¬(0:Int)<(u.bN.length:Int):=h86;omega)
   refine .to (A:=cB dM dN (blk v.u) (cz v.u+a.i.n.toNat * 4) (({u with words:=r }:Tub))) (Bs:=[arr (blk v.u) (cz v.u+a.i.n.toNat * 4) [.int .i64 (({u with words:=r }:Tub)).room,w1,w2,w3],sl bM 1 w1 (({u with words:=r }:Tub)).words,sl eJ 2 w2 (({u with words:=r }:Tub)).bN,sl aH 1 w3 (({u with words:=r }:Tub)).bC]) .auto l3 ?_
   refine .to (A:=eD dM 4 dN v.u (a.yh u x r).s.js) (Bs:=[cB dM dN (blk v.u) (cz v.u+a.i.n.toNat * 4) (({u with words:=r }:Tub)),gK dM 4 dN v.u (a.yh u x r).s.js a.i.n.toNat]) .auto (gi hu2) ?_
   rw[AU hu hwd hpq]
   exact JR 0 ()
end Go.SLYtefdijgllbkmfaaGreat
namespace Go.SLYtefdijgllbkmfaaGreat
open Go Go.RowKit
section
variable{a:RA}{choice:Int}
theorem IK(h:a.i.op=20):a.call choice=a.spawn (a.t.eR a.i.b):=by unfold RA.call;exact if_pos h
theorem J0(h:a.i.op=32):a.call choice=(a.aj (a.t.put a.i.a a.t.handle)).done 0 a.t.handle 0:=by unfold RA.call;exact(if_neg (by omega)).trans (if_pos h)
theorem J1(h:a.i.op=24):a.call choice = {a.done 0 0 0 with e:={a.e with yielded:=true } }:=by unfold RA.call;exact(if_neg (by omega)).trans ((if_neg (by omega)).trans (if_pos h))
theorem J2(h:a.i.op=21):a.call choice=a.join (a.t.eR a.i.b):=by unfold RA.call;exact(if_neg (by omega)).trans ((if_neg (by omega)).trans ((if_neg (by omega)).trans (if_pos h)))
theorem GC(h:a.i.op=22):a.call choice=a.cH (a.t.eR a.i.a):=by unfold RA.call;exact(if_neg (by omega)).trans ((if_neg (by omega)).trans ((if_neg (by omega)).trans ((if_neg (by omega)).trans (if_pos h))))
theorem J3(h:a.i.op=23):a.call choice=(a.say (a.t.eR a.i.a) 0 0 true).fin (a.t.eR a.i.a):=by unfold RA.call;exact(if_neg (by omega)).trans ((if_neg (by omega)).trans ((if_neg (by omega)).trans ((if_neg (by omega)).trans ((if_neg (by omega)).trans (if_pos h)))))
theorem nk(h:25≤a.i.op∧a.i.op≤29):a.call choice=a.gate choice:=by unfold RA.call;exact(if_neg (by omega)).trans ((if_neg (by omega)).trans ((if_neg (by omega)).trans ((if_neg (by omega)).trans ((if_neg (by omega)).trans ((if_neg (by omega)).trans (if_pos (by omega)))))))
theorem IL(h:a.i.op=30):a.call choice=a.down:=by unfold RA.call;exact(if_neg (by omega)).trans ((if_neg (by omega)).trans ((if_neg (by omega)).trans ((if_neg (by omega)).trans ((if_neg (by omega)).trans ((if_neg (by omega)).trans ((if_neg (by omega)).trans (if_pos h)))))))
theorem J4(h:a.i.op=31):a.call choice=a.up choice:=by unfold RA.call;exact(if_neg (by omega)).trans ((if_neg (by omega)).trans ((if_neg (by omega)).trans ((if_neg (by omega)).trans ((if_neg (by omega)).trans ((if_neg (by omega)).trans ((if_neg (by omega)).trans ((if_neg (by omega)).trans (if_pos h))))))))
theorem HB(h:33≤a.i.op):a.call choice=a.kernel (a.t.eR a.i.a) (a.t.eR a.i.b):=by unfold RA.call;exact(if_neg (by omega)).trans ((if_neg (by omega)).trans ((if_neg (by omega)).trans ((if_neg (by omega)).trans ((if_neg (by omega)).trans ((if_neg (by omega)).trans ((if_neg (by omega)).trans ((if_neg (by omega)).trans (if_neg (by omega)))))))))
theorem kp{x:Int}(h:(a.other x).2=0):(a.other x).1=(((a.other x).1.toNat:Nat):Int)∧(a.other x).1.toNat<16∧¬(a.other x).1.toNat=a.n:=by
 obtain⟨m,e,_,h16,hne,_⟩:=pO (show(cx a.s.thr a.n x 16 0).2=0 from h)
 have e:(a.other x).1=(m:Int):=e
 rw[e,Int.toNat_natCast]
 exact⟨rfl,by omega,hne⟩
theorem xI{thr:Nat→RT}:∀ {f n m:Nat},rFree? thr f n=some m→n≤m∧m<n+f∧(thr m).used=false
 | 0,n,m,e=>by cases e
 | f+1,n,m,e=>by
  rw[rFree?] at e
  split at e
  ·obtain⟨h1,h2,h3⟩:=xI e;exact⟨by omega,by omega,h3⟩
  ·rename_i h;cases e;exact⟨Nat.le_refl _,by omega,by simpa using h⟩
theorem qq{s:RSp}{f arg:Int}:(s.begin f arg).2.av=s.av:=by unfold RSp.begin;split <;> rfl
theorem Cc{s:RSp}{f arg:Int}(h:¬(s.begin f arg).1<0):(s.begin f arg).1=(((s.begin f arg).1.toNat:Nat):Int)∧(s.begin f arg).1.toNat<16:=by
 unfold RSp.begin at h ⊢
 split at h
 ·exact absurd (by decide:((-1:Int))<0) h
 ·rename_i n e
  obtain⟨_,h2,_⟩:=xI e
  exact⟨rfl,by show n<16;omega⟩
def RA.sp(a:RA)(y:Int):RA:=a.w (a.s.begin a.i.n y).2
theorem EN{y:Int}(h:(a.s.begin a.i.n y).1<0):a.spawn y=((a.sp y).aj ((a.sp y).t.put a.i.a 0)).done a.i.n 0 2:=by unfold RA.spawn;exact if_pos h
def RA.sK(a:RA)(y:Int)(h:Int)(r:Int):RA:={(a.sp y).aj ((a.sp y).t.put a.i.a h) with e:={a.e with aC:=[r] } }
theorem Cd{y:Int}(h:¬(a.s.begin a.i.n y).1<0):a.spawn y=(a.sK y ((a.sp y).s.t (a.s.begin a.i.n y).1.toNat).handle (a.s.begin a.i.n y).1).done a.i.n ((a.sp y).s.t (a.s.begin a.i.n y).1.toNat).handle 0:=by unfold RA.spawn;exact if_neg h
theorem sd{f:Nat→RT}{n m:Nat}{r:Nat→Int}:(dP f n {f n with aq:=r } m).handle=(f m).handle:=by
 unfold dP;split
 ·rename_i e;rw[e]
 ·rfl
end
end Go.SLYtefdijgllbkmfaaGreat
