/- Walks of functions, and what they compute. Conditions: none, this text proves no statement. -/
import Derived.Test.YtefdijgllbkmfaaGreatG06
import Derived.Test.YtefdijgllbkmfaaGreatProg
import Derived.Test.YtefdijgllbkmfaaGreatG11
import Derived.Test.YtefdijgllbkmfaaGreatG03
import Derived.KernelRfl
import Derived.Test.YtefdijgllbkmfaaGreatG05
import Derived.Shelf.Sort.Plain
import Derived.Shelf.Slices.In.SortNone
import Derived.Lib.SortBridge
import Derived.Test.YtefdijgllbkmfaaGreatG09
import Derived.Test.YtefdijgllbkmfaaGreatG04
set_option maxRecDepth 20000
set_option maxHeartbeats 4000000
namespace Go.SLYtefdijgllbkmfaaGreat
open Go Go.RowKit Go.Proofs Go.Proofs.Tryz
attribute [local irreducible] ax aP bA cp bF Y
theorem Fo{W:World}{A:aa}{x:Ptr}{c:Nat}{who:Int}:Fn Tryz.prog W 300 [.agg (eJ x).toArray,ptr c] [seps [arr c 0 [.int .i64 who],A]] Unit (fun _=>.bool (decide (x.who=who))) (fun _=>True) (fun _=>[seps [arr c 0 [.int .i64 who],A]]):=by
 refine Fn.intro (N:=8) func300 rfl ntmps300 rfl fun F=>?_
 show ax _ _ _ _ _ _ [seps [arr c 0 [.int .i64 who],A],F]
 refine .fQ .auto ?_
 refine J 2 ?_
 refine .aw rfl (af.box rfl rfl rfl) ?_
 rintro _ _ ⟨b2,rfl,rfl⟩
 exact JR 13 ()
theorem sI{W:World}{b:Nat}{t:Tub}{who:Int}(hl:rC t):Fn Tryz.prog W 265 [ptr b,.int .i64 who] [ib b t] Unit (fun _=>.bool (t.waits who)) (fun _=>True) (fun _=>[ib b t]):=by
 refine Fn.intro (N:=19) func265 rfl ntmps265 rfl fun F=>?_
 show ax _ _ _ _ _ _ [ib b t,F]
 refine .o3 (C:=ib b t) .auto rfl ?_
 rintro vw vp vg -
 obtain⟨hl1,hl2,hl3⟩:=hl
 refine J 2 ?_
 refine .aw rfl (af.box rfl rfl rfl) ?_
 rintro _ _ ⟨b3,rfl,rfl⟩
 refine J 4 ?_
 refine .draw [] [1,1,1,1,1,3,1,1,1,1,1,1,3,1,1] rfl (by kernel_rfl) ?_
 refine J 5 ?_
 refine .c call298 rfl (Cn (A:=sl aH 1 vg t.bC) (Rd.sl .here) (by omega)) fun _ _=>?_
 refine J 1 ?_
 apply bA.fZ 7 18 11 [11,12,13,14,15,16,17,18] rfl
 ·intro h11
  refine J 4 ?_
  refine .g (.makeFunc rfl rfl) ?_
  refine .dg rfl rfl rfl (af.ed rfl call299 rfl (sT (A:=seps [arr b3 0 [.int .i64 who],sl eJ 2 vp t.bN]) (p:=fun p=>decide (p.who=who)) (Rd.iF (Rd.sl (.there .here))) (by omega) call300 (fun x _=>Fo)) .auto) ?_
  rintro _ _ ⟨⟨⟩, -,rfl,rfl⟩
  refine .fQ .auto ?_
  exact JS 2
 ·intro h11
  refine J 5 ?_
  refine .zQ rfl rfl rfl rfl ?_
  exact JS 2
 exact JR 4 ()
theorem Ja{W:World}{b i:Nat}{cs:List Value}{v:Value}{xs:List Int}{x:Int}(hi:cs[i]?=some v)(hx:xs[0]?=some x)(hl:xs.length≤1000000):Fn Tryz.prog W 266 [.pointer (some ⟨b,i,none⟩)] [arr b 0 cs,sl aH 1 v xs] Value (fun _=>.int .i64 x) (fun _=>True) (fun u=>[arr b 0 (cs.set i u),sl aH 1 u (xs.eraseIdx 0)]):=by
 refine Fn.intro (N:=16) func266 rfl ntmps266 rfl fun F=>?_
 show ax _ _ _ _ _ _ [arr b 0 cs,sl aH 1 v xs,F]
 have hil:=(List.getElem?_eq_some_iff.1 hi).1
 have hxl:=(List.getElem?_eq_some_iff.1 hx).1
 refine J 9 ?_
 refine .p (.ld rfl (Cell.a hi)) ?_
 refine J 10 ?_
 refine .p (.ld rfl (Cell.a hi)) ?_
 refine .c call301 rfl (G3 (i:=0) hxl (by omega)) fun u13 _=>?_
 refine J 1 ?_
 refine .aw rfl (af.qf sizeOf23 rfl rfl (Nat.blt_eq.mpr hil)) ?_
 rintro _ _ ⟨rfl,rfl⟩
 exact JR 9 u13
theorem Jb{W:World}{b i:Nat}{cs:List Value}{v:Value}{xs:List Int}{x:Int}(hi:cs[i]?=some v)(hx:xs[0]?=some x)(hl:xs.length≤1000000):Fn Tryz.prog W 267 [.pointer (some ⟨b,i,none⟩)] [arr b 0 cs,sl bM 1 v xs] Value (fun _=>.int .u64 x) (fun _=>True) (fun u=>[arr b 0 (cs.set i u),sl bM 1 u (xs.eraseIdx 0)]):=by
 refine Fn.intro (N:=16) func267 rfl ntmps267 rfl fun F=>?_
 show ax _ _ _ _ _ _ [arr b 0 cs,sl bM 1 v xs,F]
 have hil:=(List.getElem?_eq_some_iff.1 hi).1
 have hxl:=(List.getElem?_eq_some_iff.1 hx).1
 refine J 9 ?_
 refine .p (.ld rfl (Cell.a hi)) ?_
 refine J 10 ?_
 refine .p (.ld rfl (Cell.a hi)) ?_
 refine .c call302 rfl (G4 (i:=0) hxl (by omega)) fun u13 _=>?_
 refine J 1 ?_
 refine .aw rfl (af.qf sizeOf55 rfl rfl (Nat.blt_eq.mpr hil)) ?_
 rintro _ _ ⟨rfl,rfl⟩
 exact JR 9 u13
theorem Jc{W:World}{b i:Nat}{cs:List Value}{v:Value}{xs:List Ptr}{x:Ptr}(hi:cs[i]?=some v)(hx:xs[0]?=some x)(hl:xs.length≤1000000):Fn Tryz.prog W 268 [.pointer (some ⟨b,i,none⟩)] [arr b 0 cs,sl eJ 2 v xs] Value (fun _=>.agg (eJ x).toArray) (fun _=>True) (fun u=>[arr b 0 (cs.set i u),sl eJ 2 u (xs.eraseIdx 0)]):=by
 refine Fn.intro (N:=16) func268 rfl ntmps268 rfl fun F=>?_
 show ax _ _ _ _ _ _ [arr b 0 cs,sl eJ 2 v xs,F]
 have hil:=(List.getElem?_eq_some_iff.1 hi).1
 have hxl:=(List.getElem?_eq_some_iff.1 hx).1
 refine J 2 ?_
 refine .aw rfl (af.alloc rfl zeroValue363 rfl) ?_
 rintro _ _ ⟨b2,rfl,rfl⟩
 refine J 6 ?_
 refine .p (.ld rfl (Cell.a hi)) ?_
 refine J 2 ?_
 refine .aw rfl (af.alloc rfl zeroValue363 rfl) ?_
 rintro _ _ ⟨b3,rfl,rfl⟩
 refine J 8 ?_
 refine .p (.ld rfl (Cell.a hi)) ?_
 refine .c call303 rfl (G0 (i:=0) hxl (by omega)) fun u13 _=>?_
 refine J 1 ?_
 refine .aw rfl (af.qf sizeOf207 rfl rfl (Nat.blt_eq.mpr hil)) ?_
 rintro _ _ ⟨rfl,rfl⟩
 refine J 9 ?_
 refine .fh rfl rfl isAgg363 (by exact sizeOf363) Cells.a fun w s=>⟨u13,?_,trivial,ar .auto s⟩
 rfl
theorem Fp{W:World}{b:Nat}{t:Tub}{who:Int}(hl:rC t){x:Int}:Fn Tryz.prog W 216 [ptr b,.int .i64 who,.int .u64 x] [ib b t] Unit (fun _=>.tuple #[.bool (t.put who x).1,.int .i64 (t.put who x).2.1,.bool (t.put who x).2.2.1]) (fun _=>True) (fun _=>[ib b (t.put who x).2.2.2]):=by
 refine Fn.intro (N:=61) func216 rfl ntmps216 rfl fun F=>?_
 show ax _ _ _ _ _ _ [ib b t,F]
 refine J 16 ?_
 refine .cg call265 rfl (sI hl) fun _ _=>?_
 refine JD 4 (fun h9=>?_) fun h9=>?_
 ·refine J 10 ?_
  rw[tu h9]
  refine .ly rfl rfl rfl rfl fun w s=>⟨(),?_,trivial,ar .auto s⟩
  rfl
 ·refine J 2 ?_
  refine .o3 (C:=ib b t) .auto rfl ?_
  rintro vw vp vg -
  obtain⟨hl1,hl2,hl3⟩:=hl
  refine JD 9 (fun h17=>?_) fun h17=>?_
  ·refine J 2 ?_
   obtain⟨w,r,hw⟩:=u3 (l:=t.bC) (by omega)
   refine J 3 ?_
   refine .c call266 rfl (Ja (i:=3) (v:=vg) (xs:=t.bC) (x:=w) rfl (by rw[hw];rfl) (by omega)) fun u27 _=>?_
   rw[show t.bC.eraseIdx 0=r from by rw[hw];rfl]
   refine J 8 ?_
   rw[nZ h9 hw]
   refine .ly rfl rfl rfl rfl fun w s=>⟨(),?_,trivial,ar .auto s⟩
   rfl
  ·refine J 1 ?_
   refine .draw [] [1,1,1,1,1,1,1,1,1,1,1] rfl (by kernel_rfl) ?_
   have hg0:t.bC=[]:=yL (by omega)
   refine JD 13 (fun h28=>?_) fun h28=>?_
   ·refine J 8 ?_
    refine .aw rfl (af.gD 38 rfl rfl (by kernel_rfl)) ?_
    rintro _ _ ⟨b45,rfl,rfl⟩
    refine .aw rfl (af.fj (enc:=bM) (k:=1) x rfl underlying55 underlying55 typeInfo38 rfl rfl rfl (by decide) rfl rfl rfl .auto rfl .auto (by omega) rfl) ?_
    rintro _ _ ⟨v46,rfl,rfl⟩
    refine J 2 ?_
    refine .aw rfl (af.qf sizeOf55 rfl rfl rfl) ?_
    rintro _ _ ⟨rfl,rfl⟩
    refine J 12 ?_
    rw[lL h9 hg0 h28]
    refine .ly rfl rfl rfl rfl fun w s=>⟨(),?_,trivial,ar .auto s⟩
    rfl
   ·refine J 12 ?_
    refine .p (.gI (fun v1 v2=>[v1,v2]) rfl rfl (by kernel_rfl)) ?_
    refine .aw rfl (af.gD 363 rfl rfl (by kernel_rfl)) ?_
    rintro _ _ ⟨b57,rfl,rfl⟩
    refine .aw rfl (af.fj (enc:=eJ) (k:=2) (⟨who,x⟩:Ptr) rfl underlying207 underlying207 typeInfo363 rfl rfl rfl (by decide) rfl rfl rfl .auto rfl .auto (by omega) rfl) ?_
    rintro _ _ ⟨v58,rfl,rfl⟩
    refine J 2 ?_
    refine .aw rfl (af.qf sizeOf207 rfl rfl rfl) ?_
    rintro _ _ ⟨rfl,rfl⟩
    refine J 10 ?_
    rw[lM h9 hg0 h28]
    refine .ly rfl rfl rfl rfl fun w s=>⟨(),?_,trivial,ar .auto s⟩
    rfl
theorem Fq{W:World}{b:Nat}{t:Tub}{who:Int}(hl:rC t):Fn Tryz.prog W 217 [ptr b,.int .i64 who] [ib b t] Unit (fun _=>.tuple #[.int .u64 (t.get who).1,.bool (t.get who).2.1,.int .i64 (t.get who).2.2.1,.bool (t.get who).2.2.2.1]) (fun _=>True) (fun _=>[ib b (t.get who).2.2.2.2]):=by
 refine Fn.intro (N:=64) func217 rfl ntmps217 rfl fun F=>?_
 show ax _ _ _ _ _ _ [ib b t,F]
 refine J 17 ?_
 refine .cg call265 rfl (sI hl) fun _ _=>?_
 refine JD 4 (fun h10=>?_) fun h10=>?_
 ·refine J 11 ?_
  rw[pz h10]
  refine .FE rfl rfl rfl rfl rfl fun w s=>⟨(),?_,trivial,ar .auto s⟩
  rfl
 ·refine J 2 ?_
  refine .o3 (C:=ib b t) .auto rfl ?_
  rintro vw vp vg -
  obtain⟨hl1,hl2,hl3⟩:=hl
  refine JD 9 (fun h18=>?_) fun h18=>?_
  ·refine J 2 ?_
   have hw0:t.words=[]:=yL (by omega)
   refine J 6 ?_
   refine .aw rfl (af.gD 3 rfl rfl (by kernel_rfl)) ?_
   rintro _ _ ⟨b31,rfl,rfl⟩
   refine .aw rfl (af.fj (enc:=aH) (k:=1) who rfl underlying23 underlying23 typeInfo3 rfl rfl rfl (by decide) rfl rfl rfl .auto rfl .auto (by omega) rfl) ?_
   rintro _ _ ⟨v32,rfl,rfl⟩
   refine J 2 ?_
   refine .aw rfl (af.qf sizeOf23 rfl rfl rfl) ?_
   rintro _ _ ⟨rfl,rfl⟩
   refine J 13 ?_
   rw[get_none h10 hw0]
   refine .FE rfl rfl rfl rfl rfl fun w s=>⟨(),?_,trivial,ar .auto s⟩
   rfl
  ·refine J 5 ?_
   obtain⟨x,r,hw⟩:=u3 (l:=t.words) (by omega)
   refine J 3 ?_
   refine .c call267 rfl (Jb (i:=1) (v:=vw) (xs:=t.words) (x:=x) rfl (by rw[hw];rfl) (by omega)) fun u38 _=>?_
   rw[show t.words.eraseIdx 0=r from by rw[hw];rfl]
   refine JD 14 (fun h44=>?_) fun h44=>?_
   ·refine J 11 ?_
    rw[mg h10 hw (yL (by omega))]
    refine .FE rfl rfl rfl rfl rfl fun w s=>⟨(),?_,trivial,ar .auto s⟩
    rfl
   ·refine J 4 ?_
    obtain⟨p,q,hp⟩:=u3 (l:=t.bN) (by omega)
    refine J 3 ?_
    refine .c call268 rfl (Jc (i:=2) (v:=vp) (xs:=t.bN) (x:=p) rfl (by rw[hp];rfl) (by omega)) fun u49 _=>?_
    rw[show t.bN.eraseIdx 0=q from by rw[hp];rfl]
    refine .aw rfl (af.alloc rfl zeroValue363 rfl) ?_
    rintro _ _ ⟨b9,rfl,rfl⟩
    refine J 4 ?_
    refine .draw [arr b 0 [.int .i64 t.room,u38,u49,vg],arr b9 0 (eJ p)] [0,0,0,0,0,1,1,2,2,1,1,3] rfl (by kernel_rfl) ?_
    refine J 7 ?_
    refine .d2 rfl Kept.auto (af.gD 38 rfl rfl (by kernel_rfl)) (by rintro _ _ ⟨b57,rfl,rfl⟩;exact Kept.auto) ?_
    rintro _ _ ⟨b57,rfl,rfl⟩
    refine .d2 rfl Kept.auto (af.fj (enc:=bM) (k:=1) p.x rfl underlying55 underlying55 typeInfo38 rfl rfl rfl (by decide) rfl rfl rfl .auto rfl .auto (by have h5:r.length+1=t.words.length:=(by rw[hw];rfl);omega) rfl) (by rintro _ _ ⟨v58,rfl,rfl⟩;exact Kept.auto) ?_
    rintro _ _ ⟨v58,rfl,rfl⟩
    refine J 2 ?_
    refine .d3 rfl (af.qf sizeOf55 rfl rfl rfl) ?_
    rintro _ _ ⟨rfl,rfl⟩
    refine J 3 ?_
    refine .draw [] [1,1,1,1,1,1,1] rfl (by kernel_rfl) ?_
    refine J 10 ?_
    rw[mh h10 hw hp]
    refine .FE rfl rfl rfl rfl rfl fun w s=>⟨(),?_,trivial,ar .auto s⟩
    rfl
theorem CA{W:World}{k:Int}{n:Nat}(hn:0<n)(hl:n≤1000000000):Fn Tryz.prog W 136 [.int .i64 k,.int .i64 (n:Int)] [] Unit (fun _=>.int .i64 ((pick k n:Nat):Int)) (fun _=>True) (fun _=>[]):=by
 refine Fn.intro (N:=12) func136 rfl ntmps136 rfl fun F=>?_
 show ax _ _ _ _ _ _ [F]
 refine J 9 ?_
 refine .p (.rem rfl rfl (by omega)) ?_
 refine J 1 ?_
 refine .p (.add rfl rfl (z7 hn hl)) ?_
 refine J 1 ?_
 refine .p (.dC (Y.rem rfl rfl (by omega)) (rq hn)) ?_
 exact JR 4 ()
theorem Kf{W:World}{A:aa}{x r:pe}{c:Nat}:Fn Tryz.prog W 264 [.agg (dW x).toArray,ptr c] [seps [arr c 0 (dW r),A]] Unit (fun _=>.bool (decide (x.who=r.who))) (fun _=>True) (fun _=>[seps [arr c 0 (dW r),A]]):=by
 refine Fn.intro (N:=9) func264 rfl ntmps264 rfl fun F=>?_
 show ax _ _ _ _ _ _ [seps [arr c 0 (dW r),A],F]
 refine .fQ .auto ?_
 refine J 2 ?_
 refine .aw rfl (af.box rfl rfl rfl) ?_
 rintro _ _ ⟨b2,rfl,rfl⟩
 refine .mem (H':=[arr b2 0 (dW x),arr c 0 (dW r),A,F]) (fun w s=>s) ?_
 exact JR 14 ()
theorem Fs{W:World}{b:Nat}{d:jy}{r:pe}(hl:d.wait.length≤1000000):Fn Tryz.prog W 215 [ptr b,.agg (dW r).toArray] [nH b d] Unit (fun _=>.int .i64 (d.ask r).1) (fun _=>True) (fun _=>[nH b (d.ask r).2]):=by
 refine Fn.intro (N:=40) func215 rfl ntmps215 rfl fun F=>?_
 show ax _ _ _ _ _ _ [nH b d,F]
 refine .o2 (C:=nH b d) .auto rfl ?_
 rintro vb vw -
 refine J 2 ?_
 refine .aw rfl (af.box rfl rfl rfl) ?_
 rintro _ _ ⟨b3,rfl,rfl⟩
 refine .mem (H':=[arr b3 0 (dW r),arr b 0 [vb,vw],sl bM 1 vb d.blocks,sl dW 4 vw d.wait,F]) (fun w s=>s) ?_
 refine J 6 ?_
 refine .draw [] [1,1,1,1,1,1,1,1,1,1,1,1,1,1,1,1,1,1] rfl (by kernel_rfl) ?_
 refine J 8 ?_
 apply bA.gv 9 22 13 [13,14,15,16,17,18,19,20,21,22] rfl
 ·intro h13
  exact JS 10
 ·intro h13
  exact JS 10
 refine JD 3 (fun h5=>?_) fun h5=>?_
 ·refine J 8 ?_
  rw[Ah h5]
  exact JR 0 ()
 ·refine J 6 ?_
  refine .p (.makeFunc rfl rfl) ?_
  refine .c call263 rfl (sS (A:=seps [arr b3 0 (dW r),sl dW 4 vw d.wait]) (p:=fun x=>decide (x.who=r.who)) (Rd.iF (Rd.sl (.there .here))) (by omega) call264 (fun x _=>Kf)) fun _ _=>?_
  refine .fQ .auto ?_
  refine JD 3 (fun h23=>?_) fun h23=>?_
  ·refine J 8 ?_
   rw[DO h5 h23]
   exact JR 0 ()
  ·refine J 4 ?_
   refine .draw [arr b 0 [vb,vw],arr b3 0 (dW r)] [0,0,0,0,0,1,2,2,1,1,3] rfl (by kernel_rfl) ?_
   refine J 6 ?_
   refine .d2 rfl Kept.auto (af.gD 170 rfl rfl (by kernel_rfl)) (by rintro _ _ ⟨b36,rfl,rfl⟩;exact Kept.auto) ?_
   rintro _ _ ⟨b36,rfl,rfl⟩
   refine .mem (H':=[arr b36 0 (dW r),arr b3 0 (dW r),sl dW 4 vw d.wait,arr b 0 [vb,vw],sl bM 1 vb d.blocks,F]) (fun w s=>s) ?_
   refine .d2 rfl Kept.auto (af.fj (enc:=dW) (k:=4) r rfl underlying201 underlying201 typeInfo170 rfl rfl rfl (by decide) rfl rfl rfl .auto rfl .auto (by omega) rfl) (by rintro _ _ ⟨v37,rfl,rfl⟩;exact Kept.auto) ?_
   rintro _ _ ⟨v37,rfl,rfl⟩
   refine J 2 ?_
   refine .d3 rfl (af.qf sizeOf201 rfl rfl rfl) ?_
   rintro _ _ ⟨rfl,rfl⟩
   refine J 8 ?_
   rw[DP h5 h23]
   exact JR 0 ()
theorem CB{W:World}{b:Nat}{d:jy}{k:Int}(hl:d.wait.length≤1000000)(hb:∀ r∈d.wait,0≤r.block∧r.block<(d.blocks.length:Int)):Fn Tryz.prog W 92 [ptr b,.int .i64 k] [nH b d] Unit (fun _=>.tuple #[.agg (dW (d.done k).1).toArray,.int .u64 (d.done k).2.1,.bool (d.done k).2.2.1]) (fun _=>True) (fun _=>[nH b (d.done k).2.2.2]):=by
 refine Fn.intro (N:=66) func92 rfl ntmps92 rfl fun F=>?_
 show ax _ _ _ _ _ _ [nH b d,F]
 refine .o2 (C:=nH b d) .auto rfl ?_
 rintro vb vw -
 refine J 2 ?_
 refine .aw rfl (af.alloc rfl zeroValue170 rfl) ?_
 rintro _ _ ⟨b4,rfl,rfl⟩
 refine JD 19 (fun h18=>?_) fun h18=>?_
 ·refine J 2 ?_
  refine .p (.o0 ([(.int .i64 0),(.int .i64 0),(.bool false),(.int .u64 0)]) (by kernel_rfl)) ?_
  refine J 7 ?_
  rw[mi (show d.wait.length=0 by omega)]
  refine .ym rfl rfl isAgg170 (by exact sizeOf170) Cells.a rfl rfl fun w s=>⟨(),?_,trivial,ar .auto s⟩
  rfl
 ·refine J 4 ?_
  have hpk:pick k d.wait.length<d.wait.length:=eY (by omega)
  have hr0:=getD_some (d:=rD) hpk
  obtain⟨r,hr⟩:∃ r,d.wait.getD (pick k d.wait.length) rD=r:=⟨_,rfl⟩
  rw[hr] at hr0
  have hbr:=hb r (List.mem_of_getElem? hr0)
  refine J 6 ?_
  refine .c call136 rfl (CA (by omega) (by omega)) fun _ _=>?_
  refine J 10 ?_
  refine .p (.iu (pick k d.wait.length) underlying201 sizeOf170 rfl rfl Rd.s rfl hpk) ?_
  refine .p (.la rfl (Cells.rd Rd.s hr0)) ?_
  refine .aw rfl (af.alloc rfl zeroValue170 rfl) ?_
  rintro _ _ ⟨b8,rfl,rfl⟩
  refine J 13 ?_
  refine .c call137 rfl (GZ hpk (by omega)) fun u42 _=>?_
  refine J 2 ?_
  refine .aw rfl (af.qf sizeOf201 rfl rfl rfl) ?_
  rintro _ _ ⟨rfl,rfl⟩
  refine JD 9 (fun h46=>?_) fun h46=>?_
  ·refine J 1 ?_
   refine .draw [] [1,1,1,1,1,1,1,1,1,3] rfl (by kernel_rfl) ?_
   refine J 8 ?_
   obtain⟨y,hy⟩:=aB (show r.block.toNat<d.blocks.length by omega)
   refine .p (.ix r.block.toNat rfl rfl (by omega) (by omega)) ?_
   refine .d3 rfl (af.gC (x':=r.x) rfl rfl sizeOf38 rfl hy (by decide) rfl .auto) ?_
   rintro _ _ ⟨rfl,rfl⟩
   refine J 12 ?_
   rw[kK (show ¬d.wait.length=0 by omega) hr h46]
   refine .ym rfl rfl isAgg170 (by exact sizeOf170) Cells.a rfl rfl fun w s=>⟨(),?_,trivial,ar .auto s⟩
   rfl
  ·refine J 3 ?_
   refine .draw [arr b8 0 (dW r),arr b 0 [vb,u42],sl bM 1 vb d.blocks] [1,0,0,0,0,0,0,0,0,2,1,1] rfl (by kernel_rfl) ?_
   refine J 7 ?_
   have hy:=getD_some (d:=(0:Int)) (show r.block.toNat<d.blocks.length by omega)
   refine .q (.ix r.block.toNat rfl rfl (by omega) (by omega)) ?_
   refine J 1 ?_
   refine .d2 rfl Kept.auto (af.sY (by exact sizeOf170) rfl rfl rfl (by rfl)) (by rintro _ _ ⟨rfl,rfl⟩;exact Kept.auto) ?_
   rintro _ _ ⟨rfl,rfl⟩
   refine J 5 ?_
   rw[mj (show ¬d.wait.length=0 by omega) hr h46]
   refine .ym rfl rfl isAgg170 (by exact sizeOf170) Cells.a rfl rfl fun w s=>⟨(),?_,trivial,ar .auto s⟩
   rfl
end Go.SLYtefdijgllbkmfaaGreat
namespace Go.SLYtefdijgllbkmfaaGreat
open Go Go.RowKit Go.Proofs
end Go.SLYtefdijgllbkmfaaGreat
namespace Go.Proofs
open Go.Shelf
def Tryz.lays189_ren : Go.Shelf.Ren := ⟨fun | 189 => 138 | 125 => 191 | 257 => 190 | 128 => 233 | 129 => 234 | 294 => 224 | 295 => 225 | 296 => 226 | 297 => 227 | 298 => 228 | 299 => 229 | 216 => 230 | 300 => 231 | 301 => 232 | 328 => 269 | 329 => 270 | 330 => 271 | 331 => 272 | 332 => 273 | 215 => 274 | 343 => 304 | n => n, fun | 28 => 23 | 3 => 3 | 46 => 299 | 0 => 0 | 51 => 343 | 53 => 38 | 4 => 4 | 183 => 337 | 182 => 336 | 131 => 313 | 5 => 5 | 9 => 9 | 218 => 368 | 222 => 371 | 228 => 408 | 229 => 409 | n => n, fun | n => n⟩
theorem Tryz.lays189 : Go.Proofs.Lays.n189 Tryz.prog Tryz.lays189_ren := {
  mixed := by kernel_rfl
  f125 := Tryz.func191.trans (congrArg some (by kernel_rfl))
  f128 := Tryz.func233.trans (congrArg some (by kernel_rfl))
  f129 := Tryz.func234.trans (congrArg some (by kernel_rfl))
  f189 := Tryz.func138.trans (congrArg some (by kernel_rfl))
  f215 := Tryz.func274.trans (congrArg some (by kernel_rfl))
  f216 := Tryz.func230.trans (congrArg some (by kernel_rfl))
  f257 := Tryz.func190.trans (congrArg some (by kernel_rfl))
  f294 := Tryz.func224.trans (congrArg some (by kernel_rfl))
  f295 := Tryz.func225.trans (congrArg some (by kernel_rfl))
  f296 := Tryz.func226.trans (congrArg some (by kernel_rfl))
  f297 := Tryz.func227.trans (congrArg some (by kernel_rfl))
  f298 := Tryz.func228.trans (congrArg some (by kernel_rfl))
  f299 := Tryz.func229.trans (congrArg some (by kernel_rfl))
  f300 := Tryz.func231.trans (congrArg some (by kernel_rfl))
  f301 := Tryz.func232.trans (congrArg some (by kernel_rfl))
  f328 := Tryz.func269.trans (congrArg some (by kernel_rfl))
  f329 := Tryz.func270.trans (congrArg some (by kernel_rfl))
  f330 := Tryz.func271.trans (congrArg some (by kernel_rfl))
  f331 := Tryz.func272.trans (congrArg some (by kernel_rfl))
  f332 := Tryz.func273.trans (congrArg some (by kernel_rfl))
  f343 := Tryz.func304.trans (congrArg some (by kernel_rfl))
  t0 := Tryz.underlying0
  a0 := Tryz.isAgg0
  z0 := Tryz.sizeOf0
  v0 := Tryz.zeroValue0
  t3 := Tryz.underlying3
  a3 := Tryz.isAgg3
  z3 := Tryz.sizeOf3
  v3 := Tryz.zeroValue3
  t4 := Tryz.underlying4
  a4 := Tryz.isAgg4
  z4 := Tryz.sizeOf4
  v4 := Tryz.zeroValue4
  t5 := Tryz.underlying5
  a5 := Tryz.isAgg5
  z5 := Tryz.sizeOf5
  v5 := Tryz.zeroValue5
  t9 := Tryz.underlying9
  a9 := Tryz.isAgg9
  z9 := Tryz.sizeOf9
  v9 := Tryz.zeroValue9
  t28 := Tryz.underlying23
  a28 := Tryz.isAgg23
  z28 := Tryz.sizeOf23
  v28 := Tryz.zeroValue23
  t46 := Tryz.underlying299
  a46 := Tryz.isAgg299
  z46 := Tryz.sizeOf299
  v46 := Tryz.zeroValue299
  t51 := Tryz.underlying343
  a51 := Tryz.isAgg343
  z51 := Tryz.sizeOf343
  v51 := Tryz.zeroValue343
  t53 := Tryz.underlying38
  a53 := Tryz.isAgg38
  z53 := Tryz.sizeOf38
  v53 := Tryz.zeroValue38
  t131 := Tryz.underlying313
  a131 := Tryz.isAgg313
  z131 := Tryz.sizeOf313
  v131 := Tryz.zeroValue313
  t182 := Tryz.underlying336
  a182 := Tryz.isAgg336
  z182 := Tryz.sizeOf336
  v182 := Tryz.zeroValue336
  t183 := Tryz.underlying337
  a183 := Tryz.isAgg337
  z183 := Tryz.sizeOf337
  v183 := Tryz.zeroValue337
  t218 := Tryz.underlying368
  a218 := Tryz.isAgg368
  z218 := Tryz.sizeOf368
  v218 := Tryz.zeroValue368
  t222 := Tryz.underlying371
  a222 := Tryz.isAgg371
  z222 := Tryz.sizeOf371
  v222 := Tryz.zeroValue371
  t228 := Tryz.underlying408
  a228 := Tryz.isAgg408
  z228 := Tryz.sizeOf408
  v228 := Tryz.zeroValue408
  t229 := Tryz.underlying409
  a229 := Tryz.isAgg409
  z229 := Tryz.sizeOf409
  v229 := Tryz.zeroValue409 }
open Go.Sort Go.RowKit in
theorem Tryz.slices_Sort_int (blk off cap : Nat) (zs : List Int) (w : World) (hH : Holds (Value.int .i64) w blk off zs.toArray) (hblk : blk < w.heap.size) (hsz : zs.length < 4611686018427387904) :
    Calls Tryz.prog 138 #[.slice (some ⟨blk, off, none⟩) zs.length cap] w fun e w' =>
      e = .returned (.tuple #[]) ∧ ∃ n os, w' = grow (putRow (Value.int .i64) (Sort.ahead w n) blk off (zs.mergeSort fun x y => decide (x ≤ y)).toArray) os := Any.slices_Sort_int Tryz.lays189 blk off cap zs w hH hblk hsz
open Go.RowKit Go.Sort in
/-- .. and plain. (LAID: no walk: one application.) -/
theorem Tryz.slices_Sort_int_none (p : Option Addr) (cap : Nat) (w : World) :
    Calls Tryz.prog 138 #[.slice p 0 cap] w fun e w' => e = .returned (.tuple #[]) ∧ w' = w := Any.slices_Sort_int_none Tryz.lays189 p cap w

end Go.Proofs
namespace Go.SLYtefdijgllbkmfaaGreat
open Go Go.RowKit Go.Sort Go.Proofs
theorem l9:∀ l:List Int,rows aH l=l.map (Value.int .i64)
 | []=>rfl
 | x::l=>by rw[gO,l9 l];rfl
theorem Sat.setCells{W:World}{R:aa}{b:Nat}:∀ (vs:List Value) {off:Nat} {w:World} {pre post:List Value} (cs:List Value),cs.length=vs.length→pre.length=off→Sat W w (sep (arr b 0 (pre++cs++post)) R)→Sat W (w.setCells b off vs) (sep (arr b 0 (pre++vs++post)) R)
 | [],off,w,pre,post,cs,hl,hp,s=>by
  obtain rfl:=List.eq_nil_of_length_eq_zero hl
  exact s
 | v::vs,off,w,pre,post,cs,hl,hp,s=>by
  obtain⟨c,cs,rfl⟩:∃ c r,cs=c::r:=by
   cases cs with
   | nil=>cases hl
   | cons c r=>exact⟨c,r,rfl⟩
  have h1:=Sat.setCell (off:=0) s (i:=off) v (by simp;omega)
  rw[Nat.zero_add] at h1
  have e:(pre++(c::cs)++post).set off v=(pre++[v])++cs++post:=by
   subst hp
   simp
  rw[e] at h1
  have:=Sat.setCells vs (off:=off+1) (pre:=pre++[v]) (post:=post) cs (by simpa using hl) (by simp[hp]) h1
  show Sat W ((w.setCell ⟨b,off,none⟩ v).setCells b (off+1) vs) _
  simpa using this
theorem Kg{W:World}{v:Value}{xs:List Int}(hl:xs.length≤1000000000):Fn Tryz.prog W 138 [v] [sl aH 1 v xs] Unit (fun _=>.tuple #[]) (fun _=>True) (fun _=>[sl aH 1 v (gr xs)]):=fun F w hs=>by
 simp only[seps,aR] at hs ⊢
 rcases hs.qd with ⟨⟨a,rfl⟩,rfl,s⟩ | ⟨b,cap,sp,rfl,hle,hk,hsp,s⟩
 ·refine(Go.Proofs.Tryz.slices_Sort_int_none a 0 w).mono fun e w' ⟨he,hw⟩=>⟨(),he,trivial,?_⟩
  rw[hw];exact hs
 ·have hrow:∀ j,j<xs.length→(rows aH xs++sp)[j]?=some (.int .i64 (xs.getD j 0)):=fun j hj=>by
   rw[l9,List.getElem?_append_left (by simpa using hj),List.getElem?_map,getD_some (d:=0) hj];rfl
  have hH:Holds (Value.int .i64) w b 0 xs.toArray:=fun j hj=>by
   have hj':j<xs.length:=by simpa using hj
   obtain⟨h1,h2⟩:=fm s (hrow j hj')
   refine⟨?_,qT s (i:=j) (List.getElem?_eq_some_iff.1 (hrow j hj')).1⟩
   rw[h2]
   congr 1
   congr 1
   rw[getElem!_pos xs.toArray j hj]
   simp[List.getD_eq_getElem?_getD,hj']
  by_cases hx0:xs=[]
  ·subst hx0
   refine(Go.Proofs.Tryz.slices_Sort_int_none (some ⟨b,0,none⟩) cap w).mono fun e w' ⟨he,hw⟩=>⟨(),he,trivial,?_⟩
   rw[hw];exact hs
  ·have hb:b<w.heap.size:=by
    have hpos:0<xs.length:=by
     rcases Nat.eq_zero_or_pos xs.length with h | h
     ·exact absurd (List.eq_nil_of_length_eq_zero h) hx0
     ·exact h
    exact uz (fm s (hrow 0 hpos)).2
   refine(Go.Proofs.Tryz.slices_Sort_int b 0 cap xs w hH hb (by omega)).mono fun e w' ⟨he,q,os,hw⟩=>⟨(),he,trivial,?_⟩
   rw[hw,zr,Lib.sorted_world (Value.int .i64) w b 0 q xs.toArray (gr xs) os hH (by rw[kv];simp)]
   have s1:Sat W (w.drewN q) (sep (arr b 0 ([]++rows aH xs++sp)) F):=s.below ⟨rfl,rfl,rfl,Nat.le_refl _,fun _ _=>rfl⟩
   have s2:=Sat.setCells ((gr xs).map (Value.int .i64)) (off:=0) (pre:=[]) (post:=sp) (rows aH xs) (by rw[l9];simp[kv]) rfl s1
   have s3:Sat W (grow ((w.drewN q).setCells b 0 ((gr xs).map (Value.int .i64))) os) (sep (arr b 0 ([]++(gr xs).map (Value.int .i64)++sp)) F):=s2.below ⟨rfl,rfl,rfl,by simp[grow],fun k hk=>by simp[grow,Array.getElem?_append_left hk]⟩
   rw[List.nil_append, ← l9] at s3
   have:=Sat.qc (enc:=aH) (k:=1) (xs:=gr xs) (cap:=cap) (by rw[kv];exact hle) (fun _ _=>rfl) (by rw[kv];exact hsp) s3
   rwa [kv,l9] at this
end Go.SLYtefdijgllbkmfaaGreat
namespace Go.SLYtefdijgllbkmfaaGreat
open Go Go.RowKit Go.Proofs Go.Proofs.Tryz
attribute [local irreducible] ax aP bA cp bF Y
theorem xY{W:World}{b:Nat}{w:jS}{who n:Int}(hn:0≤w.now∧w.now≤1099511627776):Fn Tryz.prog W 218 [ptr b,.int .i64 who,.int .i64 n] [mP b w] Unit (fun _=>.int .i64 (w.sleep who n).1) (fun _=>True) (fun _=>[mP b (w.sleep who n).2]):=by
 refine Fn.intro (N:=38) func218 rfl ntmps218 rfl fun F=>?_
 show ax _ _ _ _ _ _ [mP b w,F]
 refine .o1 (C:=mP b w) .auto rfl ?_
 rintro m -
 refine J 16 ?_
 apply aP.gv 3 17 14 [14,15,16,17] rfl
 ·intro h14
  exact JS 4
 ·intro h14
  exact JS 4
 refine JD 3 (fun h7=>?_) fun h7=>?_
 ·refine J 8 ?_
  rw[show w.sleep who n=(1,w) from by unfold jS.sleep;rw[if_pos (by simpa using h7)]]
  exact JR 0 ()
 ·refine J 7 ?_
  refine .p (.J9 underlying204 underlying3 zeroValue3 rfl rfl .auto) ?_
  refine JD 4 (fun h18=>?_) fun h18=>?_
  ·refine J 8 ?_
   rw[show w.sleep who n=(4,w) from by unfold jS.sleep;rw[if_neg (by simpa using h7),if_pos h18]]
   exact JR 0 ()
  ·refine J 4 ?_
   refine .draw [] [1,1,1,1,1,1,1,1,1,1,1,1,3] rfl (by kernel_rfl) ?_
   simp only[Bool.or_eq_false_iff,decide_eq_false_iff_not] at h7
   refine J 10 ?_
   refine .p (.add rfl rfl (by omega)) ?_
   refine .p (.qe rfl rfl) ?_
   refine .d3 rfl (af.mapSet underlying204 underlying3 rfl rfl rfl .auto) ?_
   rintro _ _ ⟨rfl,rfl⟩
   refine J 8 ?_
   rw[show w.sleep who n=(0,{w with dT:=mapSet w.dT who (min (w.now+n) 1099511627776) }) from by unfold jS.sleep;rw[if_neg (by omega),if_neg h18]]
   exact JR 0 ()
theorem zH{W:World}{b:Nat}{w:jS}(hn:0≤w.now∧w.now≤1099511627776)(hl:w.dT.length≤1000000):Fn Tryz.prog W 96 [ptr b] [mP b w] Value (fun u=>u) (fun _=>True) (fun u=>[sl aH 1 u w.due,mP b w.tick.2]):=by
 refine Fn.intro (N:=54) func96 rfl ntmps96 rfl fun F=>?_
 show ax _ _ _ _ _ _ [mP b w,F]
 refine .o1 (C:=mP b w) .auto rfl ?_
 rintro m -
 refine J 12 ?_
 refine .lf rfl ?_
 refine J 9 ?_
 refine .p (.add rfl rfl (by omega)) ?_
 refine .p (.qe rfl rfl) ?_
 refine J 17 ?_
 refine .o2 (C:=mO m w.dT) .auto rfl ?_
 rintro es c ho
 have hel:es.length=w.dT.length:=by have:=congrArg List.length ho.1;simpa using this
 refine .aw rfl (af.I2 rfl underlying204 rfl .auto) ?_
 rintro _ _ ⟨it,rfl,rfl⟩
 refine J 3 ?_
 refine .df (X:=List MapEntry×Value) [3,4,5,24,25,26,27,28,29,30,31,32,33,34,35,36,37,38] (fun z=>es.length+1-z.1.length) (fun z=>iC es z.1) (fun z=>[(3,some z.2)]) (fun z=>[HF it m c z.1,sl aH 1 z.2 (kx (min (w.now+1) 1099511627776) z.1),iU m (.map es.toArray c),arr b 0 [.int .i64 (min (w.now+1) 1099511627776),.map (some m)],F]) ([],.slice none 0 0) ?_ ?_ ?_ ?_
 ·exact iC.zero es
 ·exact⟨rfl,trivial⟩
 ·exact fun w s=>aM.kept .auto w s
 rintro⟨seen,u⟩ hS
 simp only at hS
 have hSl:=hS.len
 have hdl:=GI (min (w.now+1) 1099511627776) seen
 refine J 2 ?_
 refine .aw rfl (af.dD rfl rfl .auto .auto ho.2.2.1) ?_
 rintro _ _ ⟨o,ho2,rfl,rfl⟩
 refine .p (.extract (vs:=nextA o) rfl (I1 o)) ?_
 refine JD 3 (fun h25=>?_) fun h25=>?_
 ·refine J 5 ?_
  obtain⟨e,rfl⟩:∃ e,o=some e:=Option.isSome_iff_exists.1 h25
  obtain⟨he,hne⟩:=ho2.2 e rfl
  have hkv:=(EX ho).2 e he
  have hS2:=hS.next he hne
  have hS3:=hS2.len
  rw[List.length_append] at hS3
  simp only[List.length_cons,List.length_nil] at hS3
  refine .p (.I3 rfl .auto .auto he ho.2.2.2) ?_
  rw[hkv.1,hkv.2]
  refine JD 16 (fun h34=>?_) fun h34=>?_
  ·refine J 3 ?_
   refine .aw rfl (af.gD 3 rfl rfl (by kernel_rfl)) ?_
   rintro _ _ ⟨b37,rfl,rfl⟩
   refine .aw rfl (af.fj (enc:=aH) (k:=1) (sk e).1 rfl underlying23 underlying23 typeInfo3 rfl rfl rfl (by decide) rfl rfl rfl .auto rfl .auto (by dsimp only;omega) rfl) ?_
   rintro _ _ ⟨v38,rfl,rfl⟩
   refine J 3 ?_
   refine .bB (seen++[e],v38) .auto rfl ?_ ?_ ?_ ?_
   ·show es.length+1-(seen++[e]).length<es.length+1-seen.length;rw[List.length_append];simp only[List.length_cons,List.length_nil];omega
   ·exact hS2
   ·exact⟨rfl,trivial⟩
   ·show ∀ w,Sat _ w _→Sat _ w (seps [_,sl aH 1 v38 (kx _ (seen++[e])),_,_,F])
    rw[GH h34]
    exact fun w s=>aM.kept .auto w s
  ·refine J 2 ?_
   refine .bB (seen++[e],u) .auto rfl ?_ ?_ ?_ ?_
   ·show es.length+1-(seen++[e]).length<es.length+1-seen.length;rw[List.length_append];simp only[List.length_cons,List.length_nil];omega
   ·exact hS2
   ·exact⟨rfl,trivial⟩
   ·show ∀ w,Sat _ w _→Sat _ w (seps [_,sl aH 1 u (kx _ (seen++[e])),_,_,F])
    rw[I4 h34]
    exact fun w s=>aM.kept .auto w s
 ·have hall:=ho2.1 (by cases o with
   | none=>rfl
   | some e=>cases h25)
  refine J 8 ?_
  refine .to (A:=mO m w.dT) (Bs:=[iU m (.map es.toArray c)]) .auto (fun h a=>⟨es,c,ho,a⟩) ?_
  refine .c call138 rfl (Kg (xs:=kx (min (w.now+1) 1099511627776) seen) (by omega)) fun _ _=>?_
  rw[A1 ho hS hall]
  have hdw:w.due.length≤1000000:=by rw[← A1 ho hS hall,kv];omega
  refine J 11 ?_
  refine .df (X:=Nat) [7,43,44,45,46,47,48,49,50,51,52] (fun k=>w.due.length-k) (fun k=>k≤w.due.length) (fun k=>[(43,some (.int .i64 (k:Int)))]) (fun k=>[mO m ((w.due.take k).foldl dO w.dT),sl aH 1 u w.due,arr b 0 [.int .i64 (min (w.now+1) 1099511627776),.map (some m)],F]) 0 ?_ ?_ ?_ ?_
  ·exact Nat.zero_le _
  ·exact⟨rfl,trivial⟩
  ·exact fun w s=>aM.kept .auto w s
  rintro k hk
  refine JD 6 (fun h44=>?_) fun h44=>?_
  ·obtain⟨x,hx⟩:=aB (show k<w.due.length by omega)
   refine J 7 ?_
   refine .p (.lr rfl hx) ?_
   refine J 9 ?_
   refine .aw rfl (af.dO underlying204 underlying3 rfl rfl .auto rfl) ?_
   rintro _ _ ⟨rfl,rfl⟩
   refine J 7 ?_
   refine .bB (k+1) .auto rfl ?_ ?_ ?_ ?_
   ·omega
   ·omega
   ·exact⟨rfl,trivial⟩
   ·show ∀ w2,Sat _ w2 _→Sat _ w2 (seps [mO m ((w.due.take (k+1)).foldl dO w.dT),_,_,F])
    rw[dc hx,List.foldl_append]
    exact fun w s=>aM.kept .auto w s
  ·obtain rfl:k=w.due.length:=by omega
   rw[List.take_length]
   refine J 12 ?_
   show cp W 54 (bodyPost _ _ (fun e w2=>∃ u,e=_∧True∧Sat W w2 (sep (seps [sl aH 1 u w.due,mP b ⟨min (w.now+1) 1099511627776,w.due.foldl dO w.dT⟩]) F))) _ _ _
   exact JR 0 u
end Go.SLYtefdijgllbkmfaaGreat
namespace Go.SLYtefdijgllbkmfaaGreat
open Go Go.RowKit Go.Proofs Go.Proofs.Tryz
attribute [local irreducible] ax aP bA cp bF Y
theorem uu{W:World}{bd b p:Nat}{ps:List (Option Nat)}{d:Dng}{h:Int}(h0:0≤h)(hT:iX d.s.table)(hs:∀ n,bj d.s.table h=some n→bZ ps d.s n):Fn Tryz.prog W 163 [ptr bd,.int .u64 h] [bz bd b p ps d] Unit (fun _=>.tuple #[.int .i64 (((d.other h).1:Nat):Int),.int .i64 (d.other h).2]) (fun _=>True) (fun _=>[bz bd b p ps d]):=by
 refine Fn.intro (N:=60) func163 rfl ntmps163 rfl fun F=>?_
 show ax _ _ _ _ _ _ [bz bd b p ps d,F]
 refine .o2 (C:=bz bd b p ps d) .auto rfl ?_
 rintro vw ve -
 refine .iO (C:=cY b ps d.s) .auto rfl ?_
 rintro fv sv pv bt vm bg vt bk bw vr -
 refine J 16 ?_
 refine .c call202 rfl (um hT h0) fun _ _=>?_
 refine J 1 ?_
 refine .p (.extract (v:=.int .i64 (((bj d.s.table h).getD 0:Nat):Int)) rfl rfl) ?_
 refine .p (.extract (v:=.bool (bj d.s.table h).isSome) rfl rfl) ?_
 refine J 8 ?_
 obtain⟨m,hm⟩:∃ m,m=(bj d.s.table h).getD 0:=⟨_,rfl⟩
 rw[← hm]
 refine J 3 ?_
 refine .part (t:=23) rfl (fun h23=>?_) (fun h23=>?_)
 ·refine J 24 ?_
  refine .iD rfl ?_
  refine J 9 ?_
  rw[oa (Option.isNone_iff_eq_none.mp (by simpa using h23))]
  exact JR 0 ()
 ·obtain⟨n,hf⟩:∃ n,bj d.s.table h=some n:=Option.isSome_iff_exists.mp (by simpa using h23)
  obtain rfl:m=n:=by rw[hm,hf];rfl
  obtain⟨hm16,q,u,hq,hu,hR⟩:=hs m hf
  refine .fr .auto (bY hq hu) ?_
  refine J 8 ?_
  refine .mJ (t:=31) rfl (fun h31=>?_) (fun h31=>?_)
  ·refine J 16 ?_
   refine .iD rfl ?_
   refine J 9 ?_
   refine .to (A:=aD ps d.s.thr) (Bs:=[arr q 0 (bn u),aD (ps.set m none) (d.s.thr.set m none)]) .auto (bS hq hu) ?_
   rw[jc hf hu (.inl (Int.ofNat_inj.mp h31))]
   exact JR 0 ()
  ·refine J 7 ?_
   refine .g (.aE m underlying123 sizeOf122 rfl rfl rfl hm16) ?_
   refine .g (.ld rfl (Cell.a (by rw[Nat.mul_one,eK hm16,eG hq]))) ?_
   refine JD 7 (fun h20=>?_) fun h20=>?_
   ·refine J 9 ?_
    refine .to (A:=aD ps d.s.thr) (Bs:=[arr q 0 (bn u),aD (ps.set m none) (d.s.thr.set m none)]) .auto (bS hq hu) ?_
    rw[jc hf hu (.inr h20)]
    exact JR 0 ()
   ·have hno:¬(m=d.n∨u.bq=true):=fun hh=>hh.elim (fun e=>h31 (Int.ofNat_inj.mpr e)) (fun e=>by rw[h20] at e;cases e)
    refine J 9 ?_
    refine .p (.aE m underlying123 sizeOf122 rfl rfl rfl hm16) ?_
    refine .p (.ld rfl (Cell.a (by rw[Nat.mul_one,eK hm16,eG hq]))) ?_
    refine JD 7 (fun h45=>?_) fun h45=>?_
    ·refine J 9 ?_
     refine .to (A:=aD ps d.s.thr) (Bs:=[arr q 0 (bn u),aD (ps.set m none) (d.s.thr.set m none)]) .auto (bS hq hu) ?_
     rw[kM hf hu hno h45]
     exact JR 0 ()
    ·refine J 11 ?_
     refine .to (A:=aD ps d.s.thr) (Bs:=[arr q 0 (bn u),aD (ps.set m none) (d.s.thr.set m none)]) .auto (bS hq hu) ?_
     rw[ob hf hu hno (Decidable.byContradiction h45)]
     exact JR 0 ()
theorem zI{W:World}{bd b p:Nat}{ps:List (Option Nat)}{d:Dng}{t:bc}(hp:ps[d.n]?=some (some p))(ht:d.s.thr[d.n]?=some (some t))(hk:iz ps d t):Fn Tryz.prog W 119 [ptr bd] [bz bd b p ps d] (List (Option Nat)) (fun _=>.tuple #[]) (fun _=>True) (fun qs=>[bz bd b p qs d.cH]):=by
 refine Fn.intro (N:=51) func119 rfl ntmps119 rfl fun F=>?_
 show ax _ _ _ _ _ _ [bz bd b p ps d,F]
 refine J 3 ?_
 refine .c call120 rfl (uq hp ht hk.I.a) fun _ _=>?_
 have hx0:0≤d.a:=by
  unfold Dng.a;rw[ck ht];exact(hk.R.r _).1
 obtain⟨x,hx⟩:∃ x,x=d.a:=⟨_,rfl⟩
 rw[← hx]
 rw[← hx] at hx0
 refine J 7 ?_
 refine .c call163 rfl (uu hx0 hk.T (hk.slot x)) fun _ _=>?_
 refine J 1 ?_
 refine .p (.extract (v:=.int .i64 (((d.other x).1:Nat):Int)) rfl rfl) ?_
 refine .p (.extract (v:=.int .i64 (d.other x).2) rfl rfl) ?_
 refine JD 13 (fun h24=>?_) fun h24=>?_
 ·refine J 7 ?_
  refine .c call117 rfl (cM hp ht (Nat.le_trans hk.av (by decide)) j0 hk.R.l) fun _ _=>?_
  refine J 1 ?_
  rw[show d.cH=d.pass x 0 (d.other x).2 from by unfold Dng.cH;rw[← hx];simp only;rw[if_pos h24]]
  exact JR 0 ps
 ·have hz:(d.other x).2=0:=Decidable.byContradiction h24
  obtain⟨m,q,u,hf,ho1,hmn,hm16,hq,hu,hRu,hdt,hjo⟩:=rJ (hk.slot x) hz
  rw[ho1,hz]
  refine J 2 ?_
  refine .o2 (C:=bz bd b p ps (d)) .auto rfl ?_
  rintro vw ve -
  refine .iO (C:=cY b ps (d).s) .auto rfl ?_
  rintro fv sv pv bt vm bg vt bk bw vr -
  refine .fr .auto (bY hq hu) ?_
  refine J 7 ?_
  refine .p (.aE m underlying123 sizeOf122 rfl rfl rfl hm16) ?_
  refine .p (.ld rfl (Cell.a (by rw[Nat.mul_one,eK hm16,eG hq]))) ?_
  refine JD 7 (fun h27=>?_) fun h27=>?_
  ·refine J 1 ?_
   refine .to (A:=aD ps d.s.thr) (Bs:=[arr q 0 (bn u),aD (ps.set m none) (d.s.thr.set m none)]) .auto (bS hq hu) ?_
   refine J 5 ?_
   refine .c call113 rfl (mB (s:=d.s) hq hu hk.lt hk.lp hk.T hRu.h.1) fun _ _=>?_
   refine J 7 ?_
   refine .c call117 rfl (cM (d:=d.free m) (ps:=ps.set m none) (p:=p) (t:=t) (by show(ps.set m none)[d.n]?=_;rw[List.getElem?_set_ne hmn];exact hp) (by show(d.s.thr.set m none)[d.n]?=_;rw[List.getElem?_set_ne hmn];exact ht) (Nat.le_trans hk.av (by decide)) (by decide) hk.R.l) fun _ _=>?_
   refine J 1 ?_
   rw[show d.cH=(d.free m).pass x 0 0 from by unfold Dng.cH;rw[← hx];simp only;rw[if_neg (by rw[hz];simp),ho1,cO hu,if_pos h27]]
   refine .CY rfl fun w s=>⟨ps.set m none,?_,trivial,ar .auto s⟩
   rfl
  ·refine J 8 ?_
   refine .p (.aE m underlying123 sizeOf122 rfl rfl rfl hm16) ?_
   refine .p (.ld rfl (Cell.a (by rw[Nat.mul_one,eK hm16,eG hq]))) ?_
   refine J 3 ?_
   rw[FW]
   refine J 7 ?_
   refine .to (A:=aD ps (d.s.thr.set m (some ({u with bq:=true })))) (Bs:=[arr q 0 (bn ({u with bq:=true })),aD (ps.set m none) (d.s.thr.set m none)]) .auto (cQ (List.getElem?_eq_some_iff.1 hu).1 hq) ?_
   refine .c call117 rfl (cM (d:={d with s:=d.s.aj m {u with bq:=true } }) (ps:=ps) (p:=p) (t:=t) hp (cn ht hmn) (Nat.le_trans hk.av (by decide)) (by decide) hk.R.l) fun _ _=>?_
   refine J 1 ?_
   rw[show d.cH=({d with s:=d.s.aj m {u with bq:=true } }:Dng).pass x 0 0 from by unfold Dng.cH;rw[← hx];simp only;rw[if_neg (by rw[hz];simp),ho1,cO hu,if_neg h27]]
   exact JR 0 ps
theorem Ft{W:World}{bd b p:Nat}{ps:List (Option Nat)}{d:Dng}{t:bc}(hp:ps[d.n]?=some (some p))(ht:d.s.thr[d.n]?=some (some t))(hk:iz ps d t):Fn Tryz.prog W 118 [ptr bd] [bz bd b p ps d] (List (Option Nat)) (fun _=>.tuple #[]) (fun _=>True) (fun qs=>[bz bd b p qs d.join]):=by
 refine Fn.intro (N:=94) func118 rfl ntmps118 rfl fun F=>?_
 show ax _ _ _ _ _ _ [bz bd b p ps d,F]
 have hIa:=hk.I.a
 have hRl:=hk.R.l
 refine J 3 ?_
 refine .c call162 rfl (HG hp ht hk.I.b) fun _ _=>?_
 have hx0:0≤d.b:=by
  unfold Dng.b;rw[ck ht];exact(hk.R.r _).1
 obtain⟨x,hx⟩:∃ x,x=d.b:=⟨_,rfl⟩
 rw[← hx]
 rw[← hx] at hx0
 refine J 7 ?_
 refine .c call163 rfl (uu hx0 hk.T (hk.slot x)) fun _ _=>?_
 refine J 1 ?_
 refine .p (.extract (v:=.int .i64 (((d.other x).1:Nat):Int)) rfl rfl) ?_
 refine .p (.extract (v:=.int .i64 (d.other x).2) rfl rfl) ?_
 refine JD 12 (fun h37=>?_) fun h37=>?_
 ·refine J 4 ?_
  refine .c call117 rfl (cM hp ht (Nat.le_trans hk.av (by decide)) j0 hk.R.l) fun _ _=>?_
  refine J 2 ?_
  rw[show d.join=d.pass x 0 (d.other x).2 from by unfold Dng.join;rw[← hx];simp only;rw[if_pos h37]]
  exact JR 0 ps
 ·have hz:(d.other x).2=0:=Decidable.byContradiction h37
  obtain⟨m,q,u,hf,ho1,hmn,hm16,hq,hu,hRu,hdt,hjo⟩:=rJ (hk.slot x) hz
  rw[ho1,hz]
  refine J 2 ?_
  refine .o2 (C:=bz bd b p ps (d)) .auto rfl ?_
  rintro vw ve -
  refine .iO (C:=cY b ps (d).s) .auto rfl ?_
  rintro fv sv pv bt vm bg vt bk bw vr -
  refine .fr .auto (bY hq hu) ?_
  refine J 7 ?_
  refine .p (.aE m underlying123 sizeOf122 rfl rfl rfl hm16) ?_
  refine .p (.ld rfl (Cell.a (by rw[Nat.mul_one,eK hm16,eG hq]))) ?_
  refine JD 7 (fun h44=>?_) fun h44=>?_
  ·refine J 9 ?_
   refine .p (.aE m underlying123 sizeOf122 rfl rfl rfl hm16) ?_
   refine .p (.ld rfl (Cell.a (by rw[Nat.mul_one,eK hm16,eG hq]))) ?_
   refine J 7 ?_
   refine .to (A:=aD ps d.s.thr) (Bs:=[arr q 0 (bn u),aD (ps.set m none) (d.s.thr.set m none)]) .auto (bS hq hu) ?_
   refine .fr .auto (bY hp ht) ?_
   refine .draw [arr bd 0 (ey b p d vw ve)] [1,1,1,1,1,1,1,1,1,1,1,1,1,1,3] rfl (by kernel_rfl) ?_
   refine J 13 ?_
   refine .p (.aE d.i.a.toNat underlying39 sizeOf38 rfl rfl (by omega) (by omega)) ?_
   refine .d3 rfl (af.st sizeOf38 rfl rfl rfl (Nat.blt_eq.mpr (by show 2+d.i.a.toNat * 1<18;omega))) ?_
   rintro _ _ ⟨rfl,rfl⟩
   rw[jb _ (by omega) (by omega) hRl]
   refine .to (A:=aD ps (d.s.thr.set d.n (some (t.put d.i.a u.value)))) (Bs:=[arr p 0 (bn (t.put d.i.a u.value)),aD (ps.set d.n none) (d.s.thr.set d.n none)]) .auto (cQ (List.getElem?_eq_some_iff.1 ht).1 hp) ?_
   refine J 9 ?_
   refine .c call113 rfl (mB (s:=(d.aj (t.put d.i.a u.value)).s) hq (cn hu (Ne.symm hmn)) (by simp[Dng.aj,Spc.aj,hk.lt]) hk.lp hk.T hRu.h.1) fun _ _=>?_
   refine J 6 ?_
   refine .c call117 rfl (cM (d:=(d.aj (t.put d.i.a u.value)).free m) (ps:=ps.set m none) (p:=p) (t:=t.put d.i.a u.value) (by show(ps.set m none)[d.n]?=_;rw[List.getElem?_set_ne hmn];exact hp) (by show((d.aj (t.put d.i.a u.value)).s.thr.set m none)[d.n]?=_;rw[List.getElem?_set_ne hmn];exact bV ht) (Nat.le_trans hk.av (by decide)) (by decide) (by rw[jB];exact hRl)) fun _ _=>?_
   refine J 2 ?_
   rw[show d.join=((d.aj (t.put d.i.a u.value)).free m).pass x u.value 0 from by unfold Dng.join;rw[← hx];simp only;rw[if_neg (by rw[hz];simp),ho1,cO hu,if_pos h44,ck ht]]
   refine .CY rfl fun w s=>⟨ps.set m none,?_,trivial,ar .auto s⟩
   rfl
  ·refine J 1 ?_
   refine .draw [arr bd 0 (ey b p d vw ve)] [1,1,1,1,1,1,1,1,1,1,1,1,1,1,1,3] rfl (by kernel_rfl) ?_
   refine J 7 ?_
   refine .p (.aE m underlying123 sizeOf122 rfl rfl rfl hm16) ?_
   refine .p (.ld rfl (Cell.a (by rw[Nat.mul_one,eK hm16,eG hq]))) ?_
   refine J 7 ?_
   rw[yM]
   refine .to (A:=aD ps (d.s.thr.set m (some ({u with au:=d.n })))) (Bs:=[arr q 0 (bn ({u with au:=d.n })),aD (ps.set m none) (d.s.thr.set m none)]) .auto (cQ (List.getElem?_eq_some_iff.1 hu).1 hq) ?_
   refine J 10 ?_
   refine .c call164 rfl (gz (d:={d with s:=d.s.aj m {u with au:=d.n } }) (ps:=ps) (p:=p) (t:=t) hp (cn ht hmn) (Nat.le_trans hk.av (by decide))) fun _ _=>?_
   refine J 2 ?_
   rw[show d.join=({d with s:=d.s.aj m {u with au:=d.n } }:Dng).block 4 d.i.a x 0 from by unfold Dng.join;rw[← hx];simp only;rw[if_neg (by rw[hz];simp),ho1,cO hu,if_neg h44]]
   exact JR 0 ps
theorem CC{W:World}{bd b p:Nat}{ps:List (Option Nat)}{d:Dng}{t:bc}(hp:ps[d.n]?=some (some p))(ht:d.s.thr[d.n]?=some (some t))(hk:iz ps d t):Fn Tryz.prog W 178 [ptr bd] [bz bd b p ps d] Unit (fun _=>.tuple #[]) (fun _=>True) (fun _=>[bz bd b p ps (d.sleep)]):=by
 refine Fn.intro (N:=34) func178 rfl ntmps178 rfl fun F=>?_
 show ax _ _ _ _ _ _ [bz bd b p ps d,F]
 refine J 3 ?_
 refine .c call120 rfl (uq hp ht hk.I.a) fun _ _=>?_
 have hx0:0≤d.a:=by
  unfold Dng.a;rw[ck ht];exact(hk.R.r _).1
 obtain⟨x,hx⟩:∃ x,x=d.a:=⟨_,rfl⟩
 rw[← hx]
 rw[← hx] at hx0
 refine JD 11 (fun h22=>?_) fun h22=>?_
 ·refine J 3 ?_
  refine .c call117 rfl (cM hp ht (Nat.le_trans hk.av (by decide)) (by decide) hk.R.l) fun _ _=>?_
  refine J 2 ?_
  rw[show d.sleep=d.pass x 0 0 from by unfold Dng.sleep;rw[← hx];simp only;rw[if_pos h22]]
  exact JR 0 ()
 ·refine JD 7 (fun h28=>?_) fun h28=>?_
  ·refine J 3 ?_
   refine .c call117 rfl (cM hp ht (Nat.le_trans hk.av (by decide)) (by decide) hk.R.l) fun _ _=>?_
   refine J 2 ?_
   rw[show d.sleep=d.pass x 0 1 from by unfold Dng.sleep;rw[← hx];simp only;rw[if_neg h22,if_pos h28]]
   exact JR 0 ()
  ·refine J 1 ?_
   refine .o2 (C:=bz bd b p ps (d)) .auto rfl ?_
   rintro vw ve -
   refine .iO (C:=cY b ps (d).s) .auto rfl ?_
   rintro fv sv pv bt vm bg vt bk bw vr -
   refine .draw [arr bd 0 (ey b p d vw ve),arr b 0 (fi fv sv pv d.s.di bt ps vm bg vt bk bw vr)] [1,1,1,1,1,1,1,1,1,1,1,1,1,3] rfl (by kernel_rfl) ?_
   refine J 12 ?_
   refine .p (.gq underlying38 underlying3 rfl (by omega)) ?_
   refine .c call218 rfl (xY hk.wn) fun _ _=>?_
   refine J 5 ?_
   refine .c call164 rfl (gz (d:=d.ru (d.s.ay.sleep d.n x).2) hp ht (Nat.le_trans hk.av (by decide))) fun _ _=>?_
   refine J 2 ?_
   rw[show d.sleep=(d.ru (d.s.ay.sleep d.n x).2).block 8 (-1) x 0 from by unfold Dng.sleep;rw[← hx];simp only;rw[if_neg h22,if_neg h28]]
   exact JR 0 ()
theorem A5{W:World}{bd b p:Nat}{ps:List (Option Nat)}{d:Dng}{t:bc}(hp:ps[d.n]?=some (some p))(ht:d.s.thr[d.n]?=some (some t))(hk:iz ps d t){block y into:Int}(hb:0≤block):Fn Tryz.prog W 175 [ptr bd,.int .u64 block,.int .u64 y,.int .i64 into] [bz bd b p ps d] Unit (fun _=>.tuple #[]) (fun _=>True) (fun _=>[bz bd b p ps (d.ask block y into)]):=by
 refine Fn.intro (N:=45) func175 rfl ntmps175 rfl fun F=>?_
 show ax _ _ _ _ _ _ [bz bd b p ps d,F]
 refine JD 12 (fun h10=>?_) fun h10=>?_
 ·refine .o2 (C:=bz bd b p ps (d)) .auto rfl ?_
  rintro vw ve -
  refine .iO (C:=cY b ps (d).s) .auto rfl ?_
  rintro fv sv pv bt vm bg vt bk bw vr -
  refine .draw [arr bd 0 (ey b p d vw ve),arr b 0 (fi fv sv pv d.s.di bt ps vm bg vt bk bw vr)] [1,1,1,1,1,1,1,1,1,1,1,1,1,1,1,1,1,1,1,1,1,3,1] rfl (by kernel_rfl) ?_
  refine J 12 ?_
  refine .p (.gq underlying38 underlying3 rfl (by omega)) ?_
  refine J 7 ?_
  refine .p (.Bb (fun v1 v2 v3 v4=>[v1,v2,v3,v4]) rfl rfl rfl rfl (by kernel_rfl)) ?_
  refine .c call215 rfl (Fs (r:=(⟨d.n,block,decide (d.i.op=34),y⟩:pe)) hk.dw) fun _ _=>?_
  refine JD 10 (fun h34=>?_) fun h34=>?_
  ·refine J 6 ?_
   refine .c call117 rfl (cM (d:=d.du (d.s.aO.ask ⟨d.n,block,decide (d.i.op=34),y⟩).2) hp ht (Nat.le_trans hk.av (by decide)) DU hk.R.l) fun _ _=>?_
   refine J 4 ?_
   rw[show d.ask block y into=(d.du (d.s.aO.ask ⟨d.n,block,decide (d.i.op=34),y⟩).2).pass block y (d.s.aO.ask ⟨d.n,block,decide (d.i.op=34),y⟩).1 from by unfold Dng.ask;rw[if_pos h10];simp only;rw[if_pos h34]]
   exact JR 0 ()
  ·refine J 7 ?_
   refine .c call164 rfl (gz (d:=d.du (d.s.aO.ask ⟨d.n,block,decide (d.i.op=34),y⟩).2) hp ht (Nat.le_trans hk.av (by decide))) fun _ _=>?_
   refine J 1 ?_
   rw[show d.ask block y into=(d.du (d.s.aO.ask ⟨d.n,block,decide (d.i.op=34),y⟩).2).block 5 into block y from by unfold Dng.ask;rw[if_pos h10];simp only;rw[if_neg h34]]
   exact JR 0 ()
 ·refine J 9 ?_
  refine .iD rfl ?_
  refine J 6 ?_
  refine .c call117 rfl (cM hp ht (Nat.le_trans hk.av (by decide)) (by decide) hk.R.l) fun _ _=>?_
  refine J 4 ?_
  rw[show d.ask block y into=d.pass block y 1 from by unfold Dng.ask;rw[if_neg h10]]
  exact JR 0 ()
end Go.SLYtefdijgllbkmfaaGreat
namespace Go.SLYtefdijgllbkmfaaGreat
open Go Go.RowKit Go.Proofs Go.Proofs.Tryz
attribute [local irreducible] ax aP bA cp bF Y
theorem Jd{W:World}{bd b p:Nat}{d:Dng}{t:bc}{vw ve:Value}(ht:d.s.thr[d.n]?=some (some t))(hI:0≤d.i.a∧d.i.a<8):Fn Tryz.prog W 120 [ptr bd] [arr bd 0 (ey b p d vw ve),arr p 0 (bn t)] Unit (fun _=>.int .u64 d.a) (fun _=>True) (fun _=>[arr bd 0 (ey b p d vw ve),arr p 0 (bn t)]):=by
 refine Fn.intro (N:=17) func120 rfl ntmps120 rfl fun F=>?_
 show ax _ _ _ _ _ _ [arr bd 0 (ey b p d vw ve),arr p 0 (bn t),F]
 refine J 6 ?_
 refine .draw [] [1,1,1,1,1,1,1,1,1,1,1,1,1,1,1] rfl (by kernel_rfl) ?_
 refine J 12 ?_
 refine .p (.aE d.i.a.toNat underlying39 sizeOf38 rfl rfl (by omega) (by omega)) ?_
 refine .p (.ld rfl (Cell.a (mm (by omega)))) ?_
 refine J 4 ?_
 refine .aF rfl rfl fun w s=>⟨(),?_,trivial,ar .auto s⟩
 rw[show d.a=t.aq.getD d.i.a.toNat 0 from by unfold Dng.a;rw[ck ht];rfl]
theorem Fu{W:World}{bd b p:Nat}{d:Dng}{t:bc}{vw ve:Value}(ht:d.s.thr[d.n]?=some (some t))(hI:0≤d.i.b∧d.i.b<8):Fn Tryz.prog W 162 [ptr bd] [arr bd 0 (ey b p d vw ve),arr p 0 (bn t)] Unit (fun _=>.int .u64 d.b) (fun _=>True) (fun _=>[arr bd 0 (ey b p d vw ve),arr p 0 (bn t)]):=by
 refine Fn.intro (N:=17) func162 rfl ntmps162 rfl fun F=>?_
 show ax _ _ _ _ _ _ [arr bd 0 (ey b p d vw ve),arr p 0 (bn t),F]
 refine J 6 ?_
 refine .draw [] [1,1,1,1,1,1,1,1,1,1,1,1,1,1,1] rfl (by kernel_rfl) ?_
 refine J 12 ?_
 refine .p (.aE d.i.b.toNat underlying39 sizeOf38 rfl rfl (by omega) (by omega)) ?_
 refine .p (.ld rfl (Cell.a (mm (by omega)))) ?_
 refine J 4 ?_
 refine .aF rfl rfl fun w s=>⟨(),?_,trivial,ar .auto s⟩
 rw[show d.b=t.aq.getD d.i.b.toNat 0 from by unfold Dng.b;rw[ck ht];rfl]
theorem A6{W:World}{bd b p:Nat}{ps:List (Option Nat)}{d:Dng}{t:bc}(hp:ps[d.n]?=some (some p))(ht:d.s.thr[d.n]?=some (some t))(hk:iz ps d t):Fn Tryz.prog W 124 [ptr bd] [bz bd b p ps d] Unit (fun _=>.tuple #[]) (fun _=>True) (fun _=>[bz bd b p ps (d.cf)]):=by
 refine Fn.intro (N:=86) func124 rfl ntmps124 rfl fun F=>?_
 show ax _ _ _ _ _ _ [bz bd b p ps d,F]
 refine .o2 (C:=bz bd b p ps (d)) .auto rfl ?_
 rintro vw ve -
 refine .iO (C:=cY b ps (d).s) .auto rfl ?_
 rintro fv sv pv bt vm bg vt bk bw vr -
 have hnn:=hk.nn
 have hn0:=hk.I.n
 refine J 7 ?_
 refine .p (.gq underlying38 underlying3 rfl (by omega)) ?_
 refine JD 14 (fun h19=>?_) fun h19=>?_
 ·refine J 1 ?_
  refine .draw [arr bd 0 (ey b p d vw ve),arr b 0 (fi fv sv pv d.s.di bt ps vm bg vt bk bw vr)] [1,1,1,1,1,1,1,1,1,1,1,1,3,1,1,1,1,1,1,1] rfl (by kernel_rfl) ?_
  refine J 12 ?_
  refine .c call173 rfl (Hb hk.gl hk.FZ) fun _ _=>?_
  refine J 1 ?_
  refine .p (.extract (v:=.int .i64 (d.s.ag.up d.i.n d.choice).1) rfl rfl) ?_
  refine .p (.extract (v:=.bool (d.s.ag.up d.i.n d.choice).2.1) rfl rfl) ?_
  refine .p (.extract (v:=.int .i64 (d.s.ag.up d.i.n d.choice).2.2.1) rfl rfl) ?_
  refine J 14 ?_
  refine .c call117 rfl (cM (d:=d.aY (d.s.ag.up d.i.n d.choice).2.2.2) hp ht (Nat.le_trans hk.av (by decide)) DV hk.R.l) fun _ _=>?_
  refine J 7 ?_
  refine .c call167 rfl (pV (n:=(d.s.ag.up d.i.n d.choice).1) (ok:=(d.s.ag.up d.i.n d.choice).2.1) (d:=((d.aY (d.s.ag.up d.i.n d.choice).2.2.2).pass d.i.n 0 (d.s.ag.up d.i.n d.choice).2.2.1)) (fun h=>⟨(hk.iH _ (DW h)).1,((hk.iH _ (DW h)).2.of (s':=(d.aY (d.s.ag.up d.i.n d.choice).2.2.2).s) rfl).pass (d:=d.aY (d.s.ag.up d.i.n d.choice).2.2.2) ht hk.R DV⟩) (Nat.le_trans hk.ends (by decide)) (Nat.le_trans hk.FY (by decide))) fun _ _=>?_
  refine J 4 ?_
  rw[show d.cf=((d.aY (d.s.ag.up d.i.n d.choice).2.2.2).pass d.i.n 0 (d.s.ag.up d.i.n d.choice).2.2.1).given (d.s.ag.up d.i.n d.choice).1 (d.s.ag.up d.i.n d.choice).2.1 from by unfold Dng.cf;rw[if_pos h19]]
  exact JR 0 ()
 ·refine J 3 ?_
  refine .draw [arr bd 0 (ey b p d vw ve),arr b 0 (fi fv sv pv d.s.di bt ps vm bg vt bk bw vr)] [1,1,1,1,1,1,1,1,1,1,1,1,3,1,1,1,1,1] rfl (by kernel_rfl) ?_
  refine J 12 ?_
  refine .c call174 rfl (Cy hk.gl hk.FZ) fun _ _=>?_
  refine J 1 ?_
  refine .p (.extract (v:=.bool (d.s.ag.down d.n d.i.n).1) rfl rfl) ?_
  refine .p (.extract (v:=.int .i64 (d.s.ag.down d.n d.i.n).2.1) rfl rfl) ?_
  refine J 10 ?_
  apply aP.fq 3 70 67 [67,68,69,70] rfl
  ·intro h67
   exact JS 4
  ·intro h67
   exact JS 4
  refine JD 2 (fun h70=>?_) fun h70=>?_
  ·simp only[Bool.and_eq_true,decide_eq_true_eq,Bool.not_eq_true'] at h70
   refine J 8 ?_
   refine .c call164 rfl (gz (d:=d.aY (d.s.ag.down d.n d.i.n).2.2) hp ht (Nat.le_trans hk.av (by decide))) fun _ _=>?_
   refine J 4 ?_
   rw[show d.cf=(d.aY (d.s.ag.down d.n d.i.n).2.2).block 3 (-1) d.i.n 0 from by unfold Dng.cf;rw[if_neg h19];simp only;rw[if_pos h70]]
   exact JR 0 ()
  ·simp only[Bool.and_eq_false_iff,decide_eq_false_iff_not,Bool.not_eq_false'] at h70
   refine J 10 ?_
   refine .c call117 rfl (cM (d:=d.aY (d.s.ag.down d.n d.i.n).2.2) hp ht (Nat.le_trans hk.av (by decide)) Al hk.R.l) fun _ _=>?_
   refine J 1 ?_
   rw[show d.cf=(d.aY (d.s.ag.down d.n d.i.n).2.2).pass d.i.n 0 (d.s.ag.down d.n d.i.n).2.1 from by unfold Dng.cf;rw[if_neg h19];simp only;rw[if_neg (by rintro⟨a,b⟩;rcases h70 with h | h;exact h a;rw[b] at h;cases h)]]
   exact JR 0 ()
theorem pW{W:World}{bd b p:Nat}{ps:List (Option Nat)}{d:Dng}{t:bc}(hp:ps[d.n]?=some (some p))(ht:d.s.thr[d.n]?=some (some t))(hk:iz ps d t):Fn Tryz.prog W 121 [ptr bd] [bz bd b p ps d] Unit (fun _=>.tuple #[]) (fun _=>True) (fun _=>[bz bd b p ps (d.mutex)]):=by
 refine Fn.intro (N:=155) func121 rfl ntmps121 rfl fun F=>?_
 show ax _ _ _ _ _ _ [bz bd b p ps d,F]
 refine .o2 (C:=bz bd b p ps (d)) .auto rfl ?_
 rintro vw ve -
 refine .iO (C:=cY b ps (d).s) .auto rfl ?_
 rintro fv sv pv bt vm bg vt bk bw vr -
 have hnn:=hk.nn
 have hn0:=hk.I.n
 have hIc:=hk.I.c
 have hwc:=H7 hIc
 refine J 7 ?_
 refine .p (.gq underlying38 underlying3 rfl (by omega)) ?_
 refine JD 19 (fun h81=>?_) fun h81=>?_
 ·refine J 1 ?_
  refine .draw [arr bd 0 (ey b p d vw ve),arr b 0 (fi fv sv pv d.s.di bt ps vm bg vt bk bw vr)] [1,1,1,1,1,1,1,1,1,1,1,1,3,1,1,1,1,1] rfl (by kernel_rfl) ?_
  refine J 12 ?_
  refine .c call165 rfl (Cw hk.gl) fun _ _=>?_
  refine J 1 ?_
  refine .p (.extract (v:=.bool (d.s.ag.lock d.n d.i.n).1) rfl rfl) ?_
  refine .p (.extract (v:=.int .i64 (d.s.ag.lock d.n d.i.n).2.1) rfl rfl) ?_
  refine J 10 ?_
  apply aP.fq 3 104 101 [101,102,103,104] rfl
  ·intro h101
   exact JS 4
  ·intro h101
   exact JS 4
  refine JD 2 (fun h104=>?_) fun h104=>?_
  ·simp only[Bool.and_eq_true,decide_eq_true_eq,Bool.not_eq_true'] at h104
   refine J 8 ?_
   refine .c call164 rfl (gz (d:=d.aY (d.s.ag.lock d.n d.i.n).2.2) hp ht (Nat.le_trans hk.av (by decide))) fun _ _=>?_
   refine J 5 ?_
   rw[show d.mutex=(d.aY (d.s.ag.lock d.n d.i.n).2.2).block 1 (-1) d.i.n 0 from by unfold Dng.mutex;simp only;rw[if_pos h81,if_pos h104]]
   exact JR 0 ()
  ·simp only[Bool.and_eq_false_iff,decide_eq_false_iff_not,Bool.not_eq_false'] at h104
   refine J 10 ?_
   refine .c call117 rfl (cM (d:=d.aY (d.s.ag.lock d.n d.i.n).2.2) hp ht (Nat.le_trans hk.av (by decide)) Aj hk.R.l) fun _ _=>?_
   refine J 2 ?_
   rw[show d.mutex=(d.aY (d.s.ag.lock d.n d.i.n).2.2).pass d.i.n 0 (d.s.ag.lock d.n d.i.n).2.1 from by unfold Dng.mutex;simp only;rw[if_pos h81,if_neg (by rintro⟨a,b⟩;rcases h104 with h | h;exact h a;rw[b] at h;cases h)]]
   exact JR 0 ()
 ·refine JD 6 (fun h120=>?_) fun h120=>?_
  ·refine J 1 ?_
   refine .draw [arr bd 0 (ey b p d vw ve),arr b 0 (fi fv sv pv d.s.di bt ps vm bg vt bk bw vr)] [1,1,1,1,1,1,1,1,1,1,1,1,1,1,1,1,3,1,1,1,1,1,1,1] rfl (by kernel_rfl) ?_
   refine J 16 ?_
   refine .c call166 rfl (xX hk.gl) fun _ _=>?_
   refine J 1 ?_
   refine .p (.extract (v:=.int .i64 (d.s.ag.unlock d.n d.i.n d.choice).1) rfl rfl) ?_
   refine .p (.extract (v:=.bool (d.s.ag.unlock d.n d.i.n d.choice).2.1) rfl rfl) ?_
   refine .p (.extract (v:=.int .i64 (d.s.ag.unlock d.n d.i.n d.choice).2.2.1) rfl rfl) ?_
   refine J 14 ?_
   refine .c call117 rfl (cM (d:=d.aY (d.s.ag.unlock d.n d.i.n d.choice).2.2.2) hp ht (Nat.le_trans hk.av (by decide)) pB hk.R.l) fun _ _=>?_
   refine J 6 ?_
   refine .c call167 rfl (pV (n:=(d.s.ag.unlock d.n d.i.n d.choice).1) (ok:=(d.s.ag.unlock d.n d.i.n d.choice).2.1) (d:=((d.aY (d.s.ag.unlock d.n d.i.n d.choice).2.2.2).pass d.i.n 0 (d.s.ag.unlock d.n d.i.n d.choice).2.2.1)) (fun h=>⟨(hk.iH _ (rK h)).1,((hk.iH _ (rK h)).2.of (s':=(d.aY (d.s.ag.unlock d.n d.i.n d.choice).2.2.2).s) rfl).pass (d:=d.aY (d.s.ag.unlock d.n d.i.n d.choice).2.2.2) ht hk.R pB⟩) (Nat.le_trans hk.ends (by decide)) (Nat.le_trans hk.FY (by decide))) fun _ _=>?_
   refine J 2 ?_
   rw[show d.mutex=((d.aY (d.s.ag.unlock d.n d.i.n d.choice).2.2.2).pass d.i.n 0 (d.s.ag.unlock d.n d.i.n d.choice).2.2.1).given (d.s.ag.unlock d.n d.i.n d.choice).1 (d.s.ag.unlock d.n d.i.n d.choice).2.1 from by unfold Dng.mutex;simp only;rw[if_neg h81,if_pos h120]]
   exact JR 0 ()
  ·refine J 1 ?_
   refine .draw [arr bd 0 (ey b p d vw ve),arr b 0 (fi fv sv pv d.s.di bt ps vm bg vt bk bw vr)] [1,1,1,1,1,1,1,1,1,1,1,1,1,1,1,1,1,1,1,1,1,3,1,1,1,1,1,1,1] rfl (by kernel_rfl) ?_
   refine J 21 ?_
   refine .c call168 rfl (Cx hk.gl) fun _ _=>?_
   refine J 1 ?_
   refine .p (.extract (v:=.int .i64 (d.s.ag.wait d.n d.i.n d.i.c d.choice).1) rfl rfl) ?_
   refine .p (.extract (v:=.bool (d.s.ag.wait d.n d.i.n d.i.c d.choice).2.1) rfl rfl) ?_
   refine .p (.extract (v:=.int .i64 (d.s.ag.wait d.n d.i.n d.i.c d.choice).2.2.1) rfl rfl) ?_
   refine JD 12 (fun h48=>?_) fun h48=>?_
   ·refine J 1 ?_
    refine .draw [] [1,1,1,1,1,1,1,1,1,1,1,1,1,3] rfl (by kernel_rfl) ?_
    refine J 11 ?_
    refine .p (.fW underlying3 underlying38 rfl (by omega)) ?_
    refine J 1 ?_
    refine .c call117 rfl (cM (d:=d.aY (d.s.ag.wait d.n d.i.n d.i.c d.choice).2.2.2) hp ht (Nat.le_trans hk.av (by decide)) Ak hk.R.l) fun _ _=>?_
    refine J 5 ?_
    rw[show d.mutex=(d.aY (d.s.ag.wait d.n d.i.n d.i.c d.choice).2.2.2).pass d.i.n d.i.c (d.s.ag.wait d.n d.i.n d.i.c d.choice).2.2.1 from by unfold Dng.mutex;simp only;rw[if_neg h81,if_neg h120,if_pos h48,hwc]]
    exact JR 0 ()
   ·refine J 3 ?_
    refine .draw [] [1,1,1,1,1,1,1,1,1,1,1,1,3] rfl (by kernel_rfl) ?_
    refine J 11 ?_
    refine .p (.fW underlying3 underlying38 rfl (by omega)) ?_
    refine .c call164 rfl (gz (d:=d.aY (d.s.ag.wait d.n d.i.n d.i.c d.choice).2.2.2) hp ht (Nat.le_trans hk.av (by decide))) fun _ _=>?_
    refine J 6 ?_
    refine .c call167 rfl (pV (n:=(d.s.ag.wait d.n d.i.n d.i.c d.choice).1) (ok:=(d.s.ag.wait d.n d.i.n d.i.c d.choice).2.1) (d:=((d.aY (d.s.ag.wait d.n d.i.n d.i.c d.choice).2.2.2).block 2 (-1) d.i.n d.i.c)) (fun h=>⟨(hk.iH _ (wX h)).1,((hk.iH _ (wX h)).2.of (s':=(d.aY (d.s.ag.wait d.n d.i.n d.i.c d.choice).2.2.2).s) rfl).block (d:=d.aY (d.s.ag.wait d.n d.i.n d.i.c d.choice).2.2.2) ht hk.R (by decide)⟩) (Nat.le_trans hk.ends (by decide)) (Nat.le_trans hk.FY (by decide))) fun _ _=>?_
    refine J 2 ?_
    rw[show d.mutex=((d.aY (d.s.ag.wait d.n d.i.n d.i.c d.choice).2.2.2).block 2 (-1) d.i.n d.i.c).given (d.s.ag.wait d.n d.i.n d.i.c d.choice).1 (d.s.ag.wait d.n d.i.n d.i.c d.choice).2.1 from by unfold Dng.mutex;simp only;rw[if_neg h81,if_neg h120,if_neg h48,hwc]]
    exact JR 0 ()
end Go.SLYtefdijgllbkmfaaGreat
namespace Go.SLYtefdijgllbkmfaaGreat
open Go Go.RowKit Go.Proofs Go.Proofs.Tryz
attribute [local irreducible] ax aP bA cp bF Y
theorem Hc{W:World}{bd b p:Nat}{ps:List (Option Nat)}{d:Dng}{t:bc}(hp:ps[d.n]?=some (some p))(ht:d.s.thr[d.n]?=some (some t))(hk:iz ps d t)(hop:d.i.op=35∨d.i.op=36):Fn Tryz.prog W 176 [ptr bd] [bz bd b p ps d] Unit (fun _=>.tuple #[]) (fun _=>True) (fun _=>[bz bd b p ps (d.put)]):=by
 refine Fn.intro (N:=57) func176 rfl ntmps176 rfl fun F=>?_
 show ax _ _ _ _ _ _ [bz bd b p ps d,F]
 refine .o2 (C:=bz bd b p ps (d)) .auto rfl ?_
 rintro vw ve -
 refine .iO (C:=cY b ps (d).s) .auto rfl ?_
 rintro fv sv pv bt vm bg vt bk bw vr -
 have hnn:=hk.nn
 have hn0:=hk.I.n
 refine .o1 (C:=nG vt d.s.bx) .auto rfl ?_
 rintro xs hxs
 obtain⟨xq,hx,hmem⟩:=Am hxs hn0.1 (hk.oe hop)
 have hxl:xs.length=d.s.bx.length:=by rw[← hxs,List.length_map]
 have hti:=hk.oe hop
 refine .fr .auto (bY hp ht) ?_
 refine J 1 ?_
 refine .draw [] [1,1,1,1,1,1,1,1,1,1,1,1,1,1,1] rfl (by kernel_rfl) ?_
 refine J 12 ?_
 refine .p (.ix d.i.n.toNat rfl rfl (by omega) (by omega)) ?_
 refine .p (.lr rfl hx) ?_
 refine J 6 ?_
 refine .c call120 rfl (Jd ht hk.I.a) fun _ _=>?_
 refine J 5 ?_
 obtain⟨x,hx0⟩:∃ x,x=d.a:=⟨_,rfl⟩
 rw[← hx0]
 refine J 6 ?_
 refine .fr .auto (wW (f:=fun x:Nat×Tub=>ib x.1 x.2) hx) ?_
 refine .c call216 rfl (Fp (hk.tl _ hmem)) fun _ _=>?_
 refine .to (A:=nG vt (d.s.bx.set d.i.n.toNat (d.bb.put d.n x).2.2.2)) (Bs:=[sl uJ 1 vt xs,ib xq (d.bb.put d.n x).2.2.2,dH (fun x:Nat×Tub=>ib x.1 x.2) (xs.eraseIdx d.i.n.toNat)]) .auto (vd hx hxs (d.bb.put d.n x).2.2.2) ?_
 refine .to (A:=aD ps d.s.thr) (Bs:=[arr p 0 (bn t),aD (ps.set d.n none) (d.s.thr.set d.n none)]) .auto (bS hp ht) ?_
 refine J 1 ?_
 refine .p (.extract (v:=.bool (d.bb.put d.n x).1) rfl rfl) ?_
 refine .p (.extract (v:=.int .i64 (d.bb.put d.n x).2.1) rfl rfl) ?_
 refine .p (.extract (v:=.bool (d.bb.put d.n x).2.2.1) rfl rfl) ?_
 refine JD 12 (fun h35=>?_) fun h35=>?_
 ·refine J 9 ?_
  refine .c call164 rfl (gz (d:=(d.dK d.i.n.toNat (d.bb.put d.n x).2.2.2)) hp ht (Nat.le_trans hk.av (by decide))) fun _ _=>?_
  refine J 4 ?_
  rw[show d.put=(d.dK d.i.n.toNat (d.bb.put d.n x).2.2.2).block 7 (-1) d.i.n x from by unfold Dng.put;rw[← hx0];simp only;rw[if_pos (by simpa using h35)]]
  exact JR 0 ()
 ·refine J 11 ?_
  refine .c call117 rfl (cM (d:=(d.dK d.i.n.toNat (d.bb.put d.n x).2.2.2)) hp ht (Nat.le_trans hk.av (by decide)) (by decide) hk.R.l) fun _ _=>?_
  refine JD 7 (fun h52=>?_) fun h52=>?_
  ·have hlv:=(hk.wZ _ hmem).1 _ (DX h52)
   obtain⟨hw16,q,u,hq,hu,hRu⟩:=(hlv.2.of (s':=(d.dK d.i.n.toNat (d.bb.put d.n x).2.2.2).s) rfl).pass (x:=d.i.n) (y:=x) (e:=0) (d:=(d.dK d.i.n.toNat (d.bb.put d.n x).2.2.2)) ht hk.R (by decide)
   refine J 4 ?_
   refine .c call114 rfl (kz (d:=(d.dK d.i.n.toNat (d.bb.put d.n x).2.2.2).pass d.i.n x 0) hlv.1 hq hu hw16 hRu (Nat.le_trans hk.ends (by decide)) (Nat.le_trans hk.FY (by decide))) fun _ _=>?_
   refine J 1 ?_
   rw[show d.put=((d.dK d.i.n.toNat (d.bb.put d.n x).2.2.2).pass d.i.n x 0).dU (d.bb.put d.n x).2.1.toNat x from by unfold Dng.put;rw[← hx0];simp only;rw[if_neg (by simpa using h35),if_pos h52]]
   exact JR 0 ()
  ·refine J 1 ?_
   rw[show d.put=(d.dK d.i.n.toNat (d.bb.put d.n x).2.2.2).pass d.i.n x 0 from by unfold Dng.put;rw[← hx0];simp only;rw[if_neg (by simpa using h35),if_neg (by rw[h52];simp)]]
   exact JR 0 ()
theorem Hd{W:World}{bd b p:Nat}{ps:List (Option Nat)}{d:Dng}{t:bc}(hp:ps[d.n]?=some (some p))(ht:d.s.thr[d.n]?=some (some t))(hk:iz ps d t)(hop:d.i.op=35∨d.i.op=36):Fn Tryz.prog W 177 [ptr bd] [bz bd b p ps d] Unit (fun _=>.tuple #[]) (fun _=>True) (fun _=>[bz bd b p ps (d.get)]):=by
 refine Fn.intro (N:=70) func177 rfl ntmps177 rfl fun F=>?_
 show ax _ _ _ _ _ _ [bz bd b p ps d,F]
 refine .o2 (C:=bz bd b p ps (d)) .auto rfl ?_
 rintro vw ve -
 refine .iO (C:=cY b ps (d).s) .auto rfl ?_
 rintro fv sv pv bt vm bg vt bk bw vr -
 have hnn:=hk.nn
 have hn0:=hk.I.n
 refine .o1 (C:=nG vt d.s.bx) .auto rfl ?_
 rintro xs hxs
 obtain⟨xq,hx,hmem⟩:=Am hxs hn0.1 (hk.oe hop)
 have hxl:xs.length=d.s.bx.length:=by rw[← hxs,List.length_map]
 have hti:=hk.oe hop
 have hIa:=hk.I.a
 have hRl:=hk.R.l
 refine J 1 ?_
 refine .fr .auto (wW (f:=fun x:Nat×Tub=>ib x.1 x.2) hx) ?_
 refine .draw [arr bd 0 (ey b p d vw ve),arr b 0 (fi fv sv pv d.s.di bt ps vm bg vt bk bw vr),sl uJ 1 vt xs] [1,1,1,1,1,1,1,1,1,1,1,1,1,1,1,1,1,1,3,1,1,1,1,1,1,1,1,1] rfl (by kernel_rfl) ?_
 refine J 12 ?_
 refine .p (.ix d.i.n.toNat rfl rfl (by omega) (by omega)) ?_
 refine .p (.lr rfl hx) ?_
 refine J 4 ?_
 refine .c call217 rfl (Fq (hk.tl _ hmem)) fun _ _=>?_
 refine J 1 ?_
 refine .p (.extract (v:=.int .u64 (d.bb.get d.n).1) rfl rfl) ?_
 refine .p (.extract (v:=.bool (d.bb.get d.n).2.1) rfl rfl) ?_
 refine .p (.extract (v:=.int .i64 (d.bb.get d.n).2.2.1) rfl rfl) ?_
 refine .p (.extract (v:=.bool (d.bb.get d.n).2.2.2.1) rfl rfl) ?_
 refine JD 13 (fun h31=>?_) fun h31=>?_
 ·refine J 1 ?_
  refine .to (A:=nG vt (d.s.bx.set d.i.n.toNat (d.bb.get d.n).2.2.2.2)) (Bs:=[sl uJ 1 vt xs,ib xq (d.bb.get d.n).2.2.2.2,dH (fun x:Nat×Tub=>ib x.1 x.2) (xs.eraseIdx d.i.n.toNat)]) .auto (vd hx hxs (d.bb.get d.n).2.2.2.2) ?_
  refine .draw [] [1,1,1,1,1,1,1,1,1,1,1,3] rfl (by kernel_rfl) ?_
  refine J 11 ?_
  refine .c call164 rfl (gz (d:=(d.dK d.i.n.toNat (d.bb.get d.n).2.2.2.2)) hp ht (Nat.le_trans hk.av (by decide))) fun _ _=>?_
  refine J 4 ?_
  rw[show d.get=(d.dK d.i.n.toNat (d.bb.get d.n).2.2.2.2).block 6 d.i.a d.i.n 0 from by unfold Dng.get;simp only;rw[if_pos (by simpa using h31)]]
  exact JR 0 ()
 ·refine J 3 ?_
  refine .to (A:=nG vt (d.s.bx.set d.i.n.toNat (d.bb.get d.n).2.2.2.2)) (Bs:=[sl uJ 1 vt xs,ib xq (d.bb.get d.n).2.2.2.2,dH (fun x:Nat×Tub=>ib x.1 x.2) (xs.eraseIdx d.i.n.toNat)]) .auto (vd hx hxs (d.bb.get d.n).2.2.2.2) ?_
  refine .fr .auto (bY hp ht) ?_
  refine .draw [arr bd 0 (ey b p d vw ve)] [1,1,1,1,1,1,1,1,1,1,1,1,1,1,3] rfl (by kernel_rfl) ?_
  refine J 13 ?_
  refine .p (.aE d.i.a.toNat underlying39 sizeOf38 rfl rfl (by omega) (by omega)) ?_
  refine .d3 rfl (af.st sizeOf38 rfl rfl rfl (Nat.blt_eq.mpr (by show 2+d.i.a.toNat * 1<18;omega))) ?_
  rintro _ _ ⟨rfl,rfl⟩
  rw[jb _ (by omega) (by omega) hRl]
  refine .to (A:=aD ps (d.s.thr.set d.n (some (t.put d.i.a (d.bb.get d.n).1)))) (Bs:=[arr p 0 (bn (t.put d.i.a (d.bb.get d.n).1)),aD (ps.set d.n none) (d.s.thr.set d.n none)]) .auto (cQ (List.getElem?_eq_some_iff.1 ht).1 hp) ?_
  refine J 11 ?_
  refine .c call117 rfl (cM (d:=((d.dK d.i.n.toNat (d.bb.get d.n).2.2.2.2).aj (t.put d.i.a (d.bb.get d.n).1))) (t:=t.put d.i.a (d.bb.get d.n).1) hp (bV ht) (Nat.le_trans hk.av (by decide)) (by decide) (by rw[jB];exact hRl)) fun _ _=>?_
  refine JD 7 (fun h66=>?_) fun h66=>?_
  ·obtain⟨z,hz,hzw⟩:=DY h66
   have hlv:=(hk.wZ _ hmem).2 z hz
   rw[hzw] at hlv
   have hRg:=hk.R.put (i:=d.i.a) (DZ (who:=d.n) (hk.tw _ hmem))
   obtain⟨hw16,q,u,hq,hu,hRu⟩:=((hlv.2.of (s':=(d.dK d.i.n.toNat (d.bb.get d.n).2.2.2.2).s) rfl).aj (n:=d.n) hRg).pass (x:=d.i.n) (y:=(d.bb.get d.n).1) (e:=0) (d:=((d.dK d.i.n.toNat (d.bb.get d.n).2.2.2.2).aj (t.put d.i.a (d.bb.get d.n).1))) (bV ht) hRg (by decide)
   refine J 3 ?_
   refine .c call114 rfl (kz (d:=((d.dK d.i.n.toNat (d.bb.get d.n).2.2.2.2).aj (t.put d.i.a (d.bb.get d.n).1)).pass d.i.n (d.bb.get d.n).1 0) hlv.1 hq hu hw16 hRu (Nat.le_trans hk.ends (by decide)) (Nat.le_trans hk.FY (by decide))) fun _ _=>?_
   refine J 1 ?_
   rw[show d.get=(((d.dK d.i.n.toNat (d.bb.get d.n).2.2.2.2).aj (t.put d.i.a (d.bb.get d.n).1)).pass d.i.n (d.bb.get d.n).1 0).dU (d.bb.get d.n).2.2.1.toNat 0 from by unfold Dng.get;simp only;rw[if_neg (by simpa using h31),if_pos h66,show(d.dK d.i.n.toNat (d.bb.get d.n).2.2.2.2).t=t from ck ht]]
   exact JR 0 ()
  ·refine J 1 ?_
   rw[show d.get=((d.dK d.i.n.toNat (d.bb.get d.n).2.2.2.2).aj (t.put d.i.a (d.bb.get d.n).1)).pass d.i.n (d.bb.get d.n).1 0 from by unfold Dng.get;simp only;rw[if_neg (by simpa using h31),if_neg (by rw[h66];simp),show(d.dK d.i.n.toNat (d.bb.get d.n).2.2.2.2).t=t from ck ht]]
   exact JR 0 ()
end Go.SLYtefdijgllbkmfaaGreat
namespace Go.SLYtefdijgllbkmfaaGreat
open Go Go.RowKit Go.Proofs Go.Proofs.Tryz
attribute [local irreducible] ax aP bA cp bF Y
theorem CD{W:World}{bd b p:Nat}{ps:List (Option Nat)}{d:Dng}{t:bc}(hp:ps[d.n]?=some (some p))(ht:d.s.thr[d.n]?=some (some t))(hk:iz ps d t):Fn Tryz.prog W 116 [ptr bd] [bz bd b p ps d] (List (Option Nat)) (fun _=>.tuple #[]) (fun _=>True) (fun qs=>[bz bd b p qs d.spawn]):=by
 refine Fn.intro (N:=70) func116 rfl ntmps116 rfl fun F=>?_
 show ax _ _ _ _ _ _ [bz bd b p ps d,F]
 refine .o2 (C:=bz bd b p ps (d)) .auto rfl ?_
 rintro vw ve -
 refine .iO (C:=cY b ps (d).s) .auto rfl ?_
 rintro fv sv pv bt vm bg vt bk bw vr -
 have hnn:=hk.nn
 have hn0:=hk.I.n
 refine .fr .auto (bY hp ht) ?_
 have hIa:=hk.I.a
 have hRl:=hk.R.l
 have hlt:=hk.lt
 refine J 1 ?_
 refine .draw [arr bd 0 (ey b p d vw ve)] [0,0,0,0,0,0,0,0,0,0,1,2,3,1,1,1,1,1] rfl (by kernel_rfl) ?_
 refine J 9 ?_
 refine .q (.gq underlying38 underlying3 rfl (by omega)) ?_
 refine J 1 ?_
 refine .c2 call162 rfl (Fu ht hk.I.b) fun _ _=>?_
 refine .to (A:=aD ps d.s.thr) (Bs:=[arr p 0 (bn t),aD (ps.set d.n none) (d.s.thr.set d.n none)]) .auto (bS hp ht) ?_
 refine .d3 rfl (af.ed rfl call65 rfl (sE hk.T hk.lt hk.free) .auto) ?_
 rintro _ _ ⟨qs,⟨q,hqs⟩,rfl,rfl⟩
 refine J 1 ?_
 refine .p (.extract (v:=.int .i64 (d.s.begin d.i.n d.b).1) rfl rfl) ?_
 refine .p (.extract (v:=.int .i64 (d.s.begin d.i.n d.b).2.1) rfl rfl) ?_
 refine JD 16 (fun h22=>?_) fun h22=>?_
 ·obtain⟨n,hfr⟩:∃ n,slotFree? d.s.table 0=some n:=by
   cases hh:slotFree? d.s.table 0 with
   | none=>rw[iY hh] at h22;cases h22
   | some n=>exact⟨n,rfl⟩
  have hb1:(d.s.begin d.i.n d.b).1=(n:Int):=by rw[dS hfr]
  have hn0e:=hk.free n hfr
  have hn16:n<16:=hlt ▸ (List.getElem?_eq_some_iff.1 hn0e).1
  obtain⟨t1,ht1,ht1e⟩:=pD (f:=d.i.n) (arg:=d.b) hfr (by omega)
  have hqn:qs[n]?=some (some q):=by
   rw[hqs];unfold mb;rw[hfr];exact List.getElem?_set_self (by rw[hk.lp];exact hn16)
  have hne:n≠d.n:=fun e=>by rw[e,ht] at hn0e;cases hn0e
  have hp2:qs[d.n]?=some (some p):=by
   rw[hqs];unfold mb;rw[hfr];exact(List.getElem?_set_ne hne).trans hp
  have ht2:(d.s.begin d.i.n d.b).2.2.thr[d.n]?=some (some t):=by
   rw[dS hfr];exact(List.getElem?_set_ne hne).trans ht
  rw[hb1]
  refine J 2 ?_
  refine .iO (C:=cY b qs (d.s.begin d.i.n d.b).2.2) .auto rfl ?_
  rintro fv sv pv bt vm bg vt bk bw vr -
  refine .fr .auto (bY hqn ht1) ?_
  refine J 7 ?_
  refine .p (.aE n underlying123 sizeOf122 rfl rfl rfl hn16) ?_
  refine .p (.ld rfl (Cell.a (by rw[Nat.mul_one,eK hn16,eG hqn]))) ?_
  refine J 14 ?_
  refine .aw rfl (af.gD 3 rfl rfl (by kernel_rfl)) ?_
  rintro _ _ ⟨b42,rfl,rfl⟩
  refine .aw rfl (af.fj (enc:=aH) (k:=1) (n:Int) rfl underlying23 underlying23 typeInfo3 rfl rfl rfl (by decide) rfl rfl rfl .auto rfl .auto (by have:=hk.FY;omega) rfl) ?_
  rintro _ _ ⟨v43,rfl,rfl⟩
  refine J 3 ?_
  refine .aw rfl (af.qf sizeOf23 rfl rfl rfl) ?_
  rintro _ _ ⟨rfl,rfl⟩
  refine J 3 ?_
  refine .to (A:=aD qs (d.s.begin d.i.n d.b).2.2.thr) (Bs:=[arr q 0 (bn t1),aD (qs.set n none) ((d.s.begin d.i.n d.b).2.2.thr.set n none)]) .auto (bS hqn ht1) ?_
  refine .fr .auto (bY hp2 ht2) ?_
  refine .draw [arr bd 0 (ey b p d v43 ve)] [1,1,1,1,1,1,1,1,1,1,1,1,1,1,3] rfl (by kernel_rfl) ?_
  refine J 13 ?_
  refine .p (.aE d.i.a.toNat underlying39 sizeOf38 rfl rfl (by omega) (by omega)) ?_
  refine .d3 rfl (af.st sizeOf38 rfl rfl rfl (Nat.blt_eq.mpr (by show 2+d.i.a.toNat * 1<18;omega))) ?_
  rintro _ _ ⟨rfl,rfl⟩
  rw[jb _ (by omega) (by omega) hRl]
  refine .to (A:=aD qs ((d.s.begin d.i.n d.b).2.2.thr.set d.n (some (t.put d.i.a t1.handle)))) (Bs:=[arr p 0 (bn (t.put d.i.a t1.handle)),aD (qs.set d.n none) ((d.s.begin d.i.n d.b).2.2.thr.set d.n none)]) .auto (cQ (List.getElem?_eq_some_iff.1 ht2).1 hp2) ?_
  refine J 11 ?_
  refine .c call117 rfl (cM (d:=({d with s:=(d.s.begin d.i.n d.b).2.2,out:={d.out with aC:=d.out.aC++[(n:Int)] } }:Dng).aj (t.put d.i.a t1.handle)) (ps:=qs) (p:=p) (t:=t.put d.i.a t1.handle) hp2 (bV ht2) (by show(d.s.begin d.i.n d.b).2.2.av.length≤_;rw[dS hfr];exact(Nat.le_trans hk.av (by decide))) (by rw[h22];decide) (by rw[jB];exact hRl)) fun _ _=>?_
  refine J 1 ?_
  rw[show d.spawn=(({d with s:=(d.s.begin d.i.n d.b).2.2,out:={d.out with aC:=d.out.aC++[(n:Int)] } }:Dng).aj (t.put d.i.a t1.handle)).pass d.i.n t1.handle (d.s.begin d.i.n d.b).2.1 from by unfold Dng.spawn;simp only;rw[if_pos h22,if_pos h22,hb1,Int.toNat_natCast,cO ht1,show({d with s:=(d.s.begin d.i.n d.b).2.2,out:={d.out with aC:=d.out.aC++[(n:Int)] } }:Dng).t=t from cO ht2]]
  exact JR 0 qs
 ·have hfr:slotFree? d.s.table 0=none:=by
   cases hh:slotFree? d.s.table 0 with
   | none=>rfl
   | some n=>exact absurd (by rw[dS hh]) h22
  have hb:(d.s.begin d.i.n d.b)=(0,2,d.s):=iY hfr
  obtain rfl:qs=ps:=by rw[hqs];unfold mb;rw[hfr]
  rw[hb]
  have hp2:=hp
  have ht2:=ht
  refine .to (A:=cY b qs d.s) (Bs:=[cY b qs d.s]) .auto (fun h a=>by simpa only[seps,aR] using a) ?_
  refine .iO (C:=cY b qs d.s) .auto rfl ?_
  rintro fv sv pv bt vm bg vt bk bw vr -
  refine .fr .auto (bY hp2 ht2) ?_
  refine J 3 ?_
  refine .draw [arr bd 0 (ey b p d vw ve)] [1,1,1,1,1,1,1,1,1,1,1,1,1,1,3] rfl (by kernel_rfl) ?_
  refine J 13 ?_
  refine .p (.aE d.i.a.toNat underlying39 sizeOf38 rfl rfl (by omega) (by omega)) ?_
  refine .d3 rfl (af.st sizeOf38 rfl rfl rfl (Nat.blt_eq.mpr (by show 2+d.i.a.toNat * 1<18;omega))) ?_
  rintro _ _ ⟨rfl,rfl⟩
  rw[jb _ (by omega) (by omega) hRl]
  refine .to (A:=aD qs (d.s.thr.set d.n (some (t.put d.i.a 0)))) (Bs:=[arr p 0 (bn (t.put d.i.a 0)),aD (qs.set d.n none) (d.s.thr.set d.n none)]) .auto (cQ (List.getElem?_eq_some_iff.1 ht2).1 hp2) ?_
  refine J 11 ?_
  refine .c call117 rfl (cM (d:=d.aj (t.put d.i.a 0)) (ps:=qs) (p:=p) (t:=t.put d.i.a 0) (e:=2) hp2 (bV ht2) (Nat.le_trans hk.av (by decide)) (by decide) (by rw[jB];exact hRl)) fun _ _=>?_
  refine J 1 ?_
  rw[show d.spawn=(d.aj (t.put d.i.a 0)).pass d.i.n 0 2 from by unfold Dng.spawn;rw[hb];simp only;rw[if_neg (by decide),if_neg (by decide),ck ht]]
  exact JR 0 qs
theorem zJ{W:World}{bd b p:Nat}{ps:List (Option Nat)}{d:Dng}{t:bc}(hp:ps[d.n]?=some (some p))(ht:d.s.thr[d.n]?=some (some t))(hk:iz ps d t):Fn Tryz.prog W 125 [ptr bd] [bz bd b p ps d] Unit (fun _=>.tuple #[]) (fun _=>True) (fun _=>[bz bd b p ps (d.kernel)]):=by
 refine Fn.intro (N:=42) func125 rfl ntmps125 rfl fun F=>?_
 show ax _ _ _ _ _ _ [bz bd b p ps d,F]
 refine .o2 (C:=bz bd b p ps (d)) .auto rfl ?_
 rintro vw ve -
 have ha0:0≤d.a:=by
  unfold Dng.a;rw[ck ht];exact(hk.R.r _).1
 have hb0:0≤d.b:=by
  unfold Dng.b;rw[ck ht];exact(hk.R.r _).1
 refine JD 16 (fun h11=>?_) fun h11=>?_
 ·refine .iO (C:=cY b ps (d).s) .auto rfl ?_
  rintro fv sv pv bt vm bg vt bk bw vr -
  refine .fr .auto (bY hp ht) ?_
  refine .draw [arr bd 0 (ey b p d vw ve)] [0,1,2,0,0,0,0,0,3] rfl (by kernel_rfl) ?_
  refine J 2 ?_
  refine .c2 call162 rfl (Fu ht hk.I.b) fun _ _=>?_
  refine J 5 ?_
  refine .to (A:=aD ps d.s.thr) (Bs:=[arr p 0 (bn t),aD (ps.set d.n none) (d.s.thr.set d.n none)]) .auto (bS hp ht) ?_
  refine .c call175 rfl (A5 hp ht hk hb0) fun _ _=>?_
  refine J 2 ?_
  rw[show d.kernel=d.ask d.b 0 d.i.a from by unfold Dng.kernel;repeat (first | rw[if_neg (by omega)] | rw[if_pos (by omega)])]
  exact JR 0 ()
 ·refine JD 6 (fun h22=>?_) fun h22=>?_
  ·refine J 3 ?_
   refine .c call120 rfl (uq hp ht hk.I.a) fun _ _=>?_
   refine J 1 ?_
   refine .c call162 rfl (HG hp ht hk.I.b) fun _ _=>?_
   refine .c call175 rfl (A5 hp ht hk ha0) fun _ _=>?_
   refine J 2 ?_
   rw[show d.kernel=d.ask d.a d.b (-1) from by unfold Dng.kernel;repeat (first | rw[if_neg (by omega)] | rw[if_pos (by omega)])]
   exact JR 0 ()
  ·refine JD 6 (fun h30=>?_) fun h30=>?_
   ·refine J 2 ?_
    refine .c call176 rfl (Hc hp ht hk (.inl h30)) fun _ _=>?_
    refine J 2 ?_
    rw[show d.kernel=d.put from by unfold Dng.kernel;repeat (first | rw[if_neg (by omega)] | rw[if_pos (by omega)])]
    exact JR 0 ()
   ·refine JD 6 (fun h34=>?_) fun h34=>?_
    ·refine J 2 ?_
     refine .c call177 rfl (Hd hp ht hk (.inr h34)) fun _ _=>?_
     refine J 2 ?_
     rw[show d.kernel=d.get from by unfold Dng.kernel;repeat (first | rw[if_neg (by omega)] | rw[if_pos (by omega)])]
     exact JR 0 ()
    ·refine JD 6 (fun h38=>?_) fun h38=>?_
     ·refine J 2 ?_
      refine .c call178 rfl (CC hp ht hk) fun _ _=>?_
      refine J 2 ?_
      rw[show d.kernel=d.sleep from by unfold Dng.kernel;repeat (first | rw[if_neg (by omega)] | rw[if_pos (by omega)])]
      exact JR 0 ()
     ·refine J 3 ?_
      refine .c call120 rfl (uq hp ht hk.I.a) fun _ _=>?_
      refine .c call117 rfl (cM hp ht (Nat.le_trans hk.av (by decide)) (by decide) hk.R.l) fun _ _=>?_
      refine J 2 ?_
      rw[show d.kernel=d.pass d.a 0 0 from by unfold Dng.kernel;repeat (first | rw[if_neg (by omega)] | rw[if_pos (by omega)])]
      exact JR 0 ()
end Go.SLYtefdijgllbkmfaaGreat
namespace Go.SLYtefdijgllbkmfaaGreat
open Go Go.RowKit Go.Proofs Go.Proofs.Tryz
attribute [local irreducible] ax aP bA cp bF Y
theorem uv{W:World}{bd b p:Nat}{ps:List (Option Nat)}{d:Dng}{l:List Int}{u:Value}(hl:∀ w∈l,0≤w∧bZ ps d.s w.toNat)(hw:∀ w∈d.waits,0≤w∧bZ ps d.s w.toNat)(hm:d.s.di.aA≤(d.s.ag.aG.length:Int))(hgm:d.s.ag.aG.length≤1000000)(hmw:∀ x∈d.s.ag.aG,x.wait.length≤1000000)(hb:d.ends.length+l.length≤1000000∧d.out.aC.length+l.length≤1000000):Fn Tryz.prog W 123 [ptr bd,u] [bz bd b p ps d,sl aH 1 u l] Unit (fun _=>.tuple #[]) (fun _=>True) (fun _=>[bz bd b p ps (d.jT l),sl aH 1 u l]):=by
 refine Fn.intro (N:=57) func123 rfl ntmps123 rfl fun F=>?_
 show ax _ _ _ _ _ _ [bz bd b p ps d,sl aH 1 u l,F]
 refine .o2 (C:=bz bd b p ps d) .auto rfl ?_
 rintro vw ve -
 refine .iO (C:=cY b ps d.s) .auto rfl ?_
 rintro fv sv pv bt vm bg vt bk bw vr -
 have hww:eH d d.s.di.aA.toNat=d.waits:=rfl
 refine J 15 ?_
 refine .df (X:=Nat) [4,6,17,18,19,20,21,22,23,24,25,26,27,28,29,30,31,32,33,34,35,36,37,38,39,40,41,42,43,44,45,46] (fun k=>d.s.di.aA.toNat-k) (fun k=>k≤d.s.di.aA.toNat) (fun k=>[(17,some (.int .i64 (k:Int)))]) (fun k=>[bz bd b p ps ({d with s:=bX d.s (eH d k) }:Dng),sl aH 1 u l,F]) 0 ?_ ?_ ?_ ?_
 ·exact Nat.zero_le _
 ·exact⟨rfl,trivial⟩
 ·exact fun w s=>aM.kept .auto w s
 rintro k hk
 refine JD 6 (fun h18=>?_) fun h18=>?_
 ·refine J 12 ?_
  obtain⟨x,hx⟩:=aB (show k<d.s.ag.aG.length by omega)
  refine .o2 (C:=bz bd b p ps (({d with s:=bX d.s (eH d k) }:Dng))) .auto rfl ?_
  rintro vw ve -
  refine .iO (C:=cY b ps (({d with s:=bX d.s (eH d k) }:Dng)).s) .auto rfl ?_
  rintro fv sv pv bt vm bg vt bk bw vr -
  refine J 8 ?_
  have hxg:(bX d.s (eH d k)).ag.aG[k]?=some x:=by rw[vf];exact hx
  have hxl:=hmw x (List.mem_of_getElem? hx)
  refine .c call172 rfl (sX hxg hxl) fun u28 _=>?_
  refine J 5 ?_
  refine .df (X:=Nat) [6,30,31,32,33,34,35,36,37,38,39,40,41,42,43,44,45] (fun j=>(x.wait.map (·.who)).length-j) (fun j=>j≤(x.wait.map (·.who)).length) (fun j=>[(30,some (.int .i64 (j:Int)))]) (fun j=>[bz bd b p ps ({d with s:=bX d.s (eH d k++(x.wait.map (·.who)).take j) }:Dng),sl aH 1 u28 (x.wait.map (·.who)),sl aH 1 u l,F]) 0 ?_ ?_ ?_ ?_
  ·exact Nat.zero_le _
  ·exact⟨rfl,trivial⟩
  ·rw[List.take_zero,List.append_nil];exact fun w s=>aM.kept .auto w s
  rintro j hj
  refine JD 6 (fun h31=>?_) fun h31=>?_
  ·refine J 6 ?_
   have hxl2:(x.wait.map (·.who)).length≤1000000:=by rw[List.length_map];exact hxl
   obtain⟨w,hwj⟩:=aB (show j<(x.wait.map (·.who)).length by omega)
   have hwm:w∈d.waits:=List.mem_flatMap.2 ⟨x,List.mem_of_getElem? (i:=k) (by rw[List.getElem?_take_of_lt (by omega)];exact hx),List.mem_of_getElem? hwj⟩
   obtain⟨hw0,hwl⟩:=hw w hwm
   obtain⟨hw16,q,v,hq,hv,hRv⟩:=rL w.toNat (eH d k++(x.wait.map (·.who)).take j) hwl
   refine J 6 ?_
   refine .o2 (C:=bz bd b p ps (({d with s:=bX d.s (eH d k++(x.wait.map (·.who)).take j) }:Dng))) .auto rfl ?_
   rintro vw ve -
   refine .iO (C:=cY b ps (({d with s:=bX d.s (eH d k++(x.wait.map (·.who)).take j) }:Dng)).s) .auto rfl ?_
   rintro fv sv pv bt vm bg vt bk bw vr -
   refine .fr .auto (bY hq hv) ?_
   refine J 7 ?_
   refine .p (.aE w.toNat underlying123 sizeOf122 rfl rfl (by omega) hw16) ?_
   refine .p (.ld rfl (Cell.a (by rw[Nat.mul_one,eK hw16,eG hq]))) ?_
   refine J 3 ?_
   rw[n8]
   refine J 7 ?_
   refine .to (A:=aD ps (({d with s:=bX d.s (eH d k++(x.wait.map (·.who)).take j) }:Dng).s.thr.set w.toNat (some ({v with why:=1 })))) (Bs:=[arr q 0 (bn ({v with why:=1 })),aD (ps.set w.toNat none) (({d with s:=bX d.s (eH d k++(x.wait.map (·.who)).take j) }:Dng).s.thr.set w.toNat none)]) .auto (cQ (List.getElem?_eq_some_iff.1 hv).1 hq) ?_
   refine .bB (j+1) .auto rfl ?_ ?_ ?_ ?_
   ·omega
   ·show j+1≤_;omega
   ·exact⟨rfl,trivial⟩
   ·rw[dc hwj, ← List.append_assoc,yN _ _ [w],show bX (bX d.s (eH d k++(x.wait.map (·.who)).take j)) [w]=(bX d.s (eH d k++(x.wait.map (·.who)).take j)).aj w.toNat {v with why:=1 } from by show Spc.aj _ _ _=_;rw[cO hv]];exact fun w s=>aM.kept .auto w s
  ·refine J 10 ?_
   rw[List.take_of_length_le (by omega), ← vj hx]
   refine .bB (k+1) .auto rfl ?_ ?_ ?_ ?_
   ·omega
   ·show k+1≤_;omega
   ·exact⟨rfl,trivial⟩
   ·exact fun w s=>aM.kept .auto w s
 ·refine J 13 ?_
  rw[show k=d.s.di.aA.toNat from by omega,hww]
  refine .df (X:=Nat) [8,49,50,51,52,53,54,55,56] (fun k=>l.length-k) (fun k=>k≤l.length) (fun k=>[(49,some (.int .i64 (k:Int)))]) (fun k=>[bz bd b p ps (({d with s:=bX d.s d.waits }:Dng).dv (l.take k)),sl aH 1 u l,F]) 0 ?_ ?_ ?_ ?_
  ·exact Nat.zero_le _
  ·exact⟨rfl,trivial⟩
  ·exact fun w s=>aM.kept .auto w s
  rintro k hk
  refine JD 6 (fun h50=>?_) fun h50=>?_
  ·refine J 6 ?_
   obtain⟨w,hwj⟩:=aB (show k<l.length by omega)
   have hwl:=hl w (List.mem_of_getElem? hwj)
   obtain⟨hw16,q,v,hq,hv,hRv⟩:=vi w.toNat (l.take k) ({d with s:=bX d.s d.waits }:Dng) (rL _ _ hwl.2) (fun z hz=>rL _ _ (hl z (List.mem_of_mem_take hz)).2)
   have hgl2:=qm ({d with s:=bX d.s d.waits }:Dng) (l.take k)
   rw[List.length_take] at hgl2
   refine J 8 ?_
   refine .c call114 rfl (kz (d:=({d with s:=bX d.s d.waits }:Dng).dv (l.take k)) hwl.1 hq hv hw16 hRv (by show(Dng.dv _ _).ends.length≤_;simp only at hgl2;omega) (by show(Dng.dv _ _).out.aC.length≤_;simp only at hgl2;omega)) fun _ _=>?_
   refine J 7 ?_
   refine .bB (k+1) .auto rfl ?_ ?_ ?_ ?_
   ·omega
   ·show k+1≤_;omega
   ·exact⟨rfl,trivial⟩
   ·rw[dc hwj,vh];exact fun w s=>aM.kept .auto w s
  ·refine J 4 ?_
   rw[show d.jT l=({d with s:=bX d.s d.waits }:Dng).dv (l.take k) from by rw[List.take_of_length_le (by omega)];rfl]
   exact JR 0 ()
theorem Fv{W:World}{bd b p:Nat}{ps:List (Option Nat)}{d:Dng}{t:bc}(hp:ps[d.n]?=some (some p))(ht:d.s.thr[d.n]?=some (some t))(hk:iz ps d t):Fn Tryz.prog W 85 [ptr bd] [bz bd b p ps d] (List (Option Nat)) (fun _=>.tuple #[]) (fun _=>True) (fun qs=>[bz bd b p qs d.call]):=by
 refine Fn.intro (N:=124) func85 rfl ntmps85 rfl fun F=>?_
 show ax _ _ _ _ _ _ [bz bd b p ps d,F]
 refine .o2 (C:=bz bd b p ps (d)) .auto rfl ?_
 rintro vw ve -
 have hnn:=hk.nn
 have hn0:=hk.I.n
 have hIa:=hk.I.a
 have hRl:=hk.R.l
 refine JD 16 (fun h11=>?_) fun h11=>?_
 ·refine J 2 ?_
  refine .c call116 rfl (CD hp ht hk) fun qs _=>?_
  refine J 2 ?_
  rw[show d.call=d.spawn from by unfold Dng.call;repeat (first | rw[if_neg (by omega)] | rw[if_pos (by omega)])]
  exact JR 0 qs
 ·refine JD 6 (fun h15=>?_) fun h15=>?_
  ·refine J 1 ?_
   refine .iO (C:=cY b ps (d).s) .auto rfl ?_
   rintro fv sv pv bt vm bg vt bk bw vr -
   refine .fr .auto (bY hp ht) ?_
   refine .draw [arr bd 0 (ey b p d vw ve)] [1,1,1,1,1,1,1,1,1,1,1,1,1,1,1,1,1,1,1,1,3] rfl (by kernel_rfl) ?_
   refine J 19 ?_
   refine .p (.aE d.i.a.toNat underlying39 sizeOf38 rfl rfl (by omega) (by omega)) ?_
   refine .d3 rfl (af.st sizeOf38 rfl rfl rfl (Nat.blt_eq.mpr (by show 2+d.i.a.toNat * 1<18;omega))) ?_
   rintro _ _ ⟨rfl,rfl⟩
   rw[jb _ (by omega) (by omega) hRl]
   refine J 10 ?_
   refine .p (.ld rfl (Cell.a (cs:=bn (t.put d.i.a t.handle)) rfl)) ?_
   refine .to (A:=aD ps (d.s.thr.set d.n (some (t.put d.i.a t.handle)))) (Bs:=[arr p 0 (bn (t.put d.i.a t.handle)),aD (ps.set d.n none) (d.s.thr.set d.n none)]) .auto (cQ (List.getElem?_eq_some_iff.1 ht).1 hp) ?_
   refine .c call117 rfl (cM (d:=d.aj (t.put d.i.a t.handle)) (t:=t.put d.i.a t.handle) hp (bV ht) (Nat.le_trans hk.av (by decide)) (by decide) (by rw[jB];exact hRl)) fun _ _=>?_
   refine J 2 ?_
   rw[show d.call=(d.aj (t.put d.i.a t.handle)).pass 0 t.handle 0 from by unfold Dng.call;rw[if_neg h11,if_pos h15,ck ht]]
   exact JR 0 ps
  ·refine JD 6 (fun h46=>?_) fun h46=>?_
   ·refine J 3 ?_
    refine .c call117 rfl (cM hp ht (Nat.le_trans hk.av (by decide)) (by decide) hk.R.l) fun _ _=>?_
    refine J 3 ?_
    refine .o2 (C:=bz bd b p ps (d.pass 0 0 0)) .auto rfl ?_
    rintro vw ve -
    refine J 5 ?_
    rw[FX]
    refine J 2 ?_
    rw[show d.call = {d.pass 0 0 0 with out:={d.out with yielded:=true } } from by unfold Dng.call;repeat (first | rw[if_neg (by omega)] | rw[if_pos (by omega)])]
    exact JR 0 ps
   ·refine JD 6 (fun h54=>?_) fun h54=>?_
    ·refine J 2 ?_
     refine .c call118 rfl (Ft hp ht hk) fun qs _=>?_
     refine J 2 ?_
     rw[show d.call=d.join from by unfold Dng.call;repeat (first | rw[if_neg (by omega)] | rw[if_pos (by omega)])]
     exact JR 0 qs
    ·refine JD 6 (fun h58=>?_) fun h58=>?_
     ·refine J 2 ?_
      refine .c call119 rfl (zI hp ht hk) fun qs _=>?_
      refine J 2 ?_
      rw[show d.call=d.cH from by unfold Dng.call;repeat (first | rw[if_neg (by omega)] | rw[if_pos (by omega)])]
      exact JR 0 qs
     ·refine JD 6 (fun h62=>?_) fun h62=>?_
      ·refine J 4 ?_
       refine .c call120 rfl (uq hp ht hk.I.a) fun _ _=>?_
       refine .c call82 rfl (jm hp ht (Nat.le_trans hk.av (by decide))) fun _ _=>?_
       refine J 5 ?_
       refine .c call120 rfl (uq (d:=d.tell d.a 0 0 true) hp ht hk.I.a) fun _ _=>?_
       rw[show(d.tell d.a 0 0 true).a=d.a from rfl]
       refine .c call83 rfl (qS (d:=d.tell d.a 0 0 true) hp ht hk.lt hk.lp hk.T hk.R (Nat.le_trans hk.ends (by decide)) (Nat.le_trans hk.FY (by decide)) hk.join) fun qs _=>?_
       refine J 2 ?_
       rw[show d.call=(d.tell d.a 0 0 true).fin d.a from by unfold Dng.call;repeat (first | rw[if_neg (by omega)] | rw[if_pos (by omega)])]
       exact JR 0 qs
      ·refine JD 7 (fun h72=>?_) fun h72=>?_
       ·refine J 2 ?_
        first | refine ax.dG rfl (fun _=>?_) (fun hc=>absurd h72 hc) | refine ax.cond rfl (fun _=>?_) (fun hc=>by rw[h72] at hc;cases hc)
        refine J 2 ?_
        refine .c call121 rfl (pW hp ht hk) fun _ _=>?_
        refine J 2 ?_
        rw[show d.call=d.mutex from by unfold Dng.call;repeat (first | rw[if_neg (by omega)] | rw[if_pos (by omega)])]
        exact JR 0 ps
       ·refine JD 6 (fun h72=>?_) fun h72=>?_
        ·refine J 2 ?_
         first | refine ax.dG rfl (fun _=>?_) (fun hc=>absurd h72 hc) | refine ax.cond rfl (fun _=>?_) (fun hc=>by rw[h72] at hc;cases hc)
         refine J 2 ?_
         refine .c call121 rfl (pW hp ht hk) fun _ _=>?_
         refine J 2 ?_
         rw[show d.call=d.mutex from by unfold Dng.call;repeat (first | rw[if_neg (by omega)] | rw[if_pos (by omega)])]
         exact JR 0 ps
        ·refine JD 5 (fun h72c=>?_) fun h72c=>?_
         ·refine J 2 ?_
          refine .c call121 rfl (pW hp ht hk) fun _ _=>?_
          refine J 2 ?_
          rw[show d.call=d.mutex from by unfold Dng.call;repeat (first | rw[if_neg (by omega)] | rw[if_pos (by omega)])]
          exact JR 0 ps
         ·refine JD 7 (fun h78=>?_) fun h78=>?_
          ·refine J 2 ?_
           first | refine ax.dG rfl (fun _=>?_) (fun hc=>absurd h78 hc) | refine ax.cond rfl (fun _=>?_) (fun hc=>by rw[h78] at hc;cases hc)
           refine J 1 ?_
           refine .iO (C:=cY b ps (d).s) .auto rfl ?_
           rintro fv sv pv bt vm bg vt bk bw vr -
           refine .draw [arr bd 0 (ey b p d vw ve),arr b 0 (fi fv sv pv d.s.di bt ps vm bg vt bk bw vr)] [1,1,1,1,1,1,1,1,1,1,1,1,1,1,1,1,1,1,1,1,1,1,1,3,1,1,1,1,1] rfl (by kernel_rfl) ?_
           refine J 12 ?_
           refine .p (.gq underlying38 underlying3 rfl (by omega)) ?_
           refine J 10 ?_
           refine .c call122 rfl (qy hk.gl hk.F0) fun u105 _=>?_
           refine J 1 ?_
           refine .p (.extract (v:=u105) rfl rfl) ?_
           refine .p (.extract (v:=.int .i64 (d.s.ag.signal d.i.n d.choice (decide (d.i.op=29))).2.1) rfl rfl) ?_
           refine J 13 ?_
           refine .c call117 rfl (cM (d:=(d.aY (d.s.ag.signal d.i.n d.choice (decide (d.i.op=29))).2.2)) hp ht (Nat.le_trans hk.av (by decide)) gS hk.R.l) fun _ _=>?_
           have sigw:∀ w∈((d.aY (d.s.ag.signal d.i.n d.choice (decide (d.i.op=29))).2.2).pass d.i.n 0 (d.s.ag.signal d.i.n d.choice (decide (d.i.op=29))).2.1).waits,d.s.ag.has w:=fun w h=>by
            obtain⟨x,hx,hw⟩:=List.mem_flatMap.1 h
            obtain⟨y,hy,rfl⟩:=List.mem_map.1 hw
            exact(kO hk.yP.1 hk.yP.2 x (List.mem_of_mem_take hx)).2 y hy
           refine J 5 ?_
           refine .c call123 rfl (uv (d:=((d.aY (d.s.ag.signal d.i.n d.choice (decide (d.i.op=29))).2.2).pass d.i.n 0 (d.s.ag.signal d.i.n d.choice (decide (d.i.op=29))).2.1)) (l:=(d.s.ag.signal d.i.n d.choice (decide (d.i.op=29))).1) (fun w h=>⟨(hk.iH w (kN w h)).1,((hk.iH w (kN w h)).2.of (s':=(d.aY (d.s.ag.signal d.i.n d.choice (decide (d.i.op=29))).2.2).s) rfl).pass (d:=(d.aY (d.s.ag.signal d.i.n d.choice (decide (d.i.op=29))).2.2)) ht hk.R gS⟩) (fun w h=>⟨(hk.iH w (sigw w h)).1,((hk.iH w (sigw w h)).2.of (s':=(d.aY (d.s.ag.signal d.i.n d.choice (decide (d.i.op=29))).2.2).s) rfl).pass (d:=(d.aY (d.s.ag.signal d.i.n d.choice (decide (d.i.op=29))).2.2)) ht hk.R gS⟩) (by show d.s.di.aA≤((d.s.ag.signal d.i.n d.choice (decide (d.i.op=29))).2.2.aG.length:Int);rw[jD];exact hk.F1) (by show((d.s.ag.signal d.i.n d.choice (decide (d.i.op=29))).2.2.aG.length)≤_;rw[jD];exact hk.gl.m) (fun x h=>(kO hk.yP.1 hk.yP.2 x h).1) (by have:=m3 (c:=d.i.n) (ch:=d.choice) (all:=decide (d.i.op=29)) hk.yP.2;have:=hk.ends;have:=hk.FY;exact⟨by show d.ends.length+_≤_;omega,by show d.out.aC.length+_≤_;omega⟩)) fun _ _=>?_
           refine J 2 ?_
           rw[show d.call=((d.aY (d.s.ag.signal d.i.n d.choice (decide (d.i.op=29))).2.2).pass d.i.n 0 (d.s.ag.signal d.i.n d.choice (decide (d.i.op=29))).2.1).jT (d.s.ag.signal d.i.n d.choice (decide (d.i.op=29))).1 from by unfold Dng.call;repeat (first | rw[if_neg (by omega)] | rw[if_pos (by omega)])]
           exact JR 0 ps
          ·refine JD 5 (fun h78=>?_) fun h78=>?_
           ·refine J 1 ?_
            refine .iO (C:=cY b ps (d).s) .auto rfl ?_
            rintro fv sv pv bt vm bg vt bk bw vr -
            refine .draw [arr bd 0 (ey b p d vw ve),arr b 0 (fi fv sv pv d.s.di bt ps vm bg vt bk bw vr)] [1,1,1,1,1,1,1,1,1,1,1,1,1,1,1,1,1,1,1,1,1,1,1,3,1,1,1,1,1] rfl (by kernel_rfl) ?_
            refine J 12 ?_
            refine .p (.gq underlying38 underlying3 rfl (by omega)) ?_
            refine J 10 ?_
            refine .c call122 rfl (qy hk.gl hk.F0) fun u105 _=>?_
            refine J 1 ?_
            refine .p (.extract (v:=u105) rfl rfl) ?_
            refine .p (.extract (v:=.int .i64 (d.s.ag.signal d.i.n d.choice (decide (d.i.op=29))).2.1) rfl rfl) ?_
            refine J 13 ?_
            refine .c call117 rfl (cM (d:=(d.aY (d.s.ag.signal d.i.n d.choice (decide (d.i.op=29))).2.2)) hp ht (Nat.le_trans hk.av (by decide)) gS hk.R.l) fun _ _=>?_
            have sigw:∀ w∈((d.aY (d.s.ag.signal d.i.n d.choice (decide (d.i.op=29))).2.2).pass d.i.n 0 (d.s.ag.signal d.i.n d.choice (decide (d.i.op=29))).2.1).waits,d.s.ag.has w:=fun w h=>by
             obtain⟨x,hx,hw⟩:=List.mem_flatMap.1 h
             obtain⟨y,hy,rfl⟩:=List.mem_map.1 hw
             exact(kO hk.yP.1 hk.yP.2 x (List.mem_of_mem_take hx)).2 y hy
            refine J 5 ?_
            refine .c call123 rfl (uv (d:=((d.aY (d.s.ag.signal d.i.n d.choice (decide (d.i.op=29))).2.2).pass d.i.n 0 (d.s.ag.signal d.i.n d.choice (decide (d.i.op=29))).2.1)) (l:=(d.s.ag.signal d.i.n d.choice (decide (d.i.op=29))).1) (fun w h=>⟨(hk.iH w (kN w h)).1,((hk.iH w (kN w h)).2.of (s':=(d.aY (d.s.ag.signal d.i.n d.choice (decide (d.i.op=29))).2.2).s) rfl).pass (d:=(d.aY (d.s.ag.signal d.i.n d.choice (decide (d.i.op=29))).2.2)) ht hk.R gS⟩) (fun w h=>⟨(hk.iH w (sigw w h)).1,((hk.iH w (sigw w h)).2.of (s':=(d.aY (d.s.ag.signal d.i.n d.choice (decide (d.i.op=29))).2.2).s) rfl).pass (d:=(d.aY (d.s.ag.signal d.i.n d.choice (decide (d.i.op=29))).2.2)) ht hk.R gS⟩) (by show d.s.di.aA≤((d.s.ag.signal d.i.n d.choice (decide (d.i.op=29))).2.2.aG.length:Int);rw[jD];exact hk.F1) (by show((d.s.ag.signal d.i.n d.choice (decide (d.i.op=29))).2.2.aG.length)≤_;rw[jD];exact hk.gl.m) (fun x h=>(kO hk.yP.1 hk.yP.2 x h).1) (by have:=m3 (c:=d.i.n) (ch:=d.choice) (all:=decide (d.i.op=29)) hk.yP.2;have:=hk.ends;have:=hk.FY;exact⟨by show d.ends.length+_≤_;omega,by show d.out.aC.length+_≤_;omega⟩)) fun _ _=>?_
            refine J 2 ?_
            rw[show d.call=((d.aY (d.s.ag.signal d.i.n d.choice (decide (d.i.op=29))).2.2).pass d.i.n 0 (d.s.ag.signal d.i.n d.choice (decide (d.i.op=29))).2.1).jT (d.s.ag.signal d.i.n d.choice (decide (d.i.op=29))).1 from by unfold Dng.call;repeat (first | rw[if_neg (by omega)] | rw[if_pos (by omega)])]
            exact JR 0 ps
           ·refine JD 7 (fun h119=>?_) fun h119=>?_
            ·refine J 2 ?_
             first | refine ax.dG rfl (fun _=>?_) (fun hc=>absurd h119 hc) | refine ax.cond rfl (fun _=>?_) (fun hc=>by rw[h119] at hc;cases hc)
             refine J 2 ?_
             refine .c call124 rfl (A6 hp ht hk) fun _ _=>?_
             refine J 2 ?_
             rw[show d.call=d.cf from by unfold Dng.call;repeat (first | rw[if_neg (by omega)] | rw[if_pos (by omega)])]
             exact JR 0 ps
            ·refine JD 5 (fun h119=>?_) fun h119=>?_
             ·refine J 2 ?_
              refine .c call124 rfl (A6 hp ht hk) fun _ _=>?_
              refine J 2 ?_
              rw[show d.call=d.cf from by unfold Dng.call;repeat (first | rw[if_neg (by omega)] | rw[if_pos (by omega)])]
              exact JR 0 ps
             ·refine J 2 ?_
              refine .c call125 rfl (zJ hp ht hk) fun _ _=>?_
              refine J 2 ?_
              rw[show d.call=d.kernel from by unfold Dng.call;repeat (first | rw[if_neg (by omega)] | rw[if_pos (by omega)])]
              exact JR 0 ps
end Go.SLYtefdijgllbkmfaaGreat
namespace Go.SLYtefdijgllbkmfaaGreat
open Go Go.RowKit Go.Proofs Go.Proofs.Tryz
attribute [local irreducible] ax aP bA cp bF Y
theorem sJ{W:World}{fv c1 c2 c3 c4 c5 c6 c7:Value}{p:fE}{f:iG}(hl:p.funcs.length≤1000000)(hl2:∀ g∈p.funcs,g.length≤256):Fn Tryz.prog W 71 [.agg #[fv,c1,c2,c3,c4,c5,c6,c7],.agg (iy f).toArray] [wE fv p.funcs] Unit (fun _=>DI (dD p f)) (fun _=>True) (fun _=>[wE fv p.funcs]) :=
 Fn.KE fun fs hfs=>zF (A:=seps [sl cj 1 fv fs,dH (fun x=>sl dq 5 x.1 x.2) fs]) (Rd.iF (Rd.sl .here)) (fun x hx=>Rd.iF (uW (f:=fun x:Value×List Ins=>x.1) (g:=fun x=>x.2) hx (.there .here))) hfs (by rw[← List.length_map (f:=(·.2)),hfs];exact hl) (fun x hx=>Nat.le_trans (hl2 _ (by rw[← hfs];exact List.mem_map_of_mem hx)) (by decide))
theorem ma{W:World}{b:Nat}{s:Spc}{n choice:Int}(hO:jd s):Fn Tryz.prog W 40 [ptr b,.int .i64 n,.int .i64 choice] [eW b s] Value (fun u=>.tuple #[.agg (iK u (s.run n choice).1).toArray,.int .i64 (s.run n choice).2.1]) (fun _=>True) (fun u=>[sl aH 1 u (s.run n choice).1.aC,eW b (s.run n choice).2.2]):=by
 refine Fn.intro (N:=76) func40 rfl ntmps40 rfl fun F=>?_
 show ax _ _ _ _ _ _ [eW b s,F]
 refine .o1 (C:=eW b s) .auto rfl ?_
 rintro ps -
 refine .iO (C:=cY b ps s) .auto rfl ?_
 rintro fv sv pv bt vm bg vt bk bw vr -
 refine .eS (fun w st=>st.fact .auto gQ) fun hs=>?_
 refine J 2 ?_
 refine .aw rfl (af.alloc rfl zeroValue93 rfl) ?_
 rintro _ _ ⟨b6,rfl,rfl⟩
 refine J 7 ?_
 refine .c call70 rfl wc fun _ _=>?_
 refine JD 12 (fun h15=>?_) fun h15=>?_
 ·have hap:u6 ps n=none:=by
   cases hh:u6 ps n with
   | none=>rfl
   | some p=>rw[hh] at h15;cases h15
  refine J 2 ?_
  refine .p (.o0 ([(.slice none 0 0),(.bool false),(.bool false),(.bool false)]) (by kernel_rfl)) ?_
  refine J 7 ?_
  rw[lO (D0 hs hap hO.lt)]
  refine .hY rfl rfl isAgg93 (by exact sizeOf93) Cells.a rfl fun w s=>⟨(.slice none 0 0),?_,trivial,ar .auto s⟩
  rfl
 ·obtain⟨p,hap⟩:∃ p,u6 ps n=some p:=by
   cases hh:u6 ps n with
   | none=>rw[hh] at h15;cases h15
   | some p=>exact⟨p,rfl⟩
  rw[hap]
  obtain⟨k,t,rfl,hk16,hp,ht,hat⟩:=yO hs hap hO.lt
  have hR:=(hO.R k t ht).1
  have hpc:=(hO.R k t ht).2
  refine J 2 ?_
  refine .iO (C:=cY b ps s) .auto rfl ?_
  rintro fv sv pv bt vm bg vt bk bw vr -
  refine .fr .auto (bY hp ht) ?_
  refine JD 8 (fun h19=>?_) fun h19=>?_
  ·refine J 2 ?_
   refine .p (.o0 ([(.slice none 0 0),(.bool false),(.bool false),(.bool false)]) (by kernel_rfl)) ?_
   refine J 7 ?_
   refine .to (A:=aD ps s.thr) (Bs:=[arr p 0 (bn t),aD (ps.set k none) (s.thr.set k none)]) .auto (bS hp ht) ?_
   rw[lP hat h19]
   refine .hY rfl rfl isAgg93 (by exact sizeOf93) Cells.a rfl fun w s=>⟨(.slice none 0 0),?_,trivial,ar .auto s⟩
   rfl
  ·have hw0:t.why=0:=Decidable.not_not.mp h19
   refine J 4 ?_
   refine .s4 [arr b 0 (fi fv sv pv s.di bt ps vm bg vt bk bw vr),arr p 0 (bn t)] [0,0,0,0,0,0,0,0,2,0,0,0,4,2,0] [0,1,2,3,4,5,6,7,8,9,10,11,12,13,14] rfl (by kernel_rfl) ?_
   refine bF.q rfl rfl rfl Kept.auto (Y.m rfl) ?_
   refine bF.q rfl rfl rfl Kept.auto (Y.n rfl) ?_
   refine bF.q rfl rfl rfl Kept.auto (Y.gm 25 underlying126 rfl sizeOf25 rfl) ?_
   refine bF.q rfl rfl rfl Kept.auto (Y.CN isAgg25 rfl (Cells.iE (ds:=wY fv sv pv s.di) (Cells.a (cs:=fi fv sv pv s.di bt ps vm bg vt bk bw vr)) rfl) (by exact sizeOf25)) ?_
   refine bF.q rfl rfl rfl Kept.auto (Y.m rfl) ?_
   refine bF.q rfl rfl rfl Kept.auto (Y.n rfl) ?_
   refine bF.q rfl rfl rfl Kept.auto (Y.gm 145 underlying147 rfl sizeOf145 rfl) ?_
   refine bF.q rfl rfl rfl Kept.auto (Y.CN isAgg145 rfl (Cells.iE (ds:=iy t.gb) (Cells.a (cs:=bn t)) rfl) (by exact sizeOf145)) ?_
   refine bF.ed rfl (.inl rfl) rfl (fun _=>Kept.auto) call71 rfl (sJ (p:=s.di) (f:=t.gb) hO.w8.1 hO.w8.2) .auto (fun _ _=>Kept.auto) ?_
   rintro⟨⟩ -
   refine bF.q rfl rfl rfl Kept.auto (Y.m rfl) ?_
   refine bF.q rfl rfl rfl Kept.auto (Y.extract (v:=.agg (dq ((dD s.di t.gb).getD Ins.z)).toArray) rfl rfl) ?_
   refine bF.q rfl rfl rfl Kept.auto (Y.extract (v:=.bool (dD s.di t.gb).isSome) rfl rfl) ?_
   refine bF.fresh rfl rfl rfl (by decide) Kept.auto (lC zeroValue131 rfl) ?_
   rintro b9
   refine bF.H6 rfl rfl (by exact sizeOf131) rfl rfl rfl (by rfl) Kept.auto Kept.auto ?_
   refine bF.q rfl rfl rfl Kept.auto (Y.a rfl) ?_
   refine bF.nil ?_
   refine J 8 ?_
   refine .p (.Ku (fun _ _ _ _ _=>ey b p (s.dF k ((dD s.di t.gb).getD Ins.z) choice) (.slice none 0 0) (.slice none 0 0)) rfl rfl rfl rfl rfl (by kernel_rfl)) ?_
   refine .aw rfl (af.box rfl rfl rfl) ?_
   rintro _ _ ⟨b44,rfl,rfl⟩
   refine JD 12 (fun h56=>?_) fun h56=>?_
   ·have hn:(dD s.di t.gb)=none:=Option.isNone_iff_eq_none.mp (by simpa using h56)
    refine J 3 ?_
    refine .p (.iV (fun v1=>[v1,(.int .i64 0),(.int .i64 0),(.int .i64 0),(.int .u64 0)]) rfl (by kernel_rfl)) ?_
    refine J 2 ?_
    refine .aw rfl (af.qA (vs:=dq ⟨23,0,0,0,0⟩) (by exact sizeOf131) rfl rfl rfl rfl) ?_
    rintro _ _ ⟨rfl,rfl⟩
    rw[show setFrom (ey b p (s.dF k ((dD s.di t.gb).getD Ins.z) choice) (.slice none 0 0) (.slice none 0 0)) 3 (dq ⟨23,0,0,0,0⟩)=ey b p (s.dF k ⟨23,0,0,0,0⟩ choice) (.slice none 0 0) (.slice none 0 0) from rfl]
    refine J 5 ?_
    refine .to (A:=aD ps s.thr) (Bs:=[arr p 0 (bn t),aD (ps.set k none) (s.thr.set k none)]) .auto (bS hp ht) ?_
    refine .c call82 rfl (jm (d:=(s.dF k ⟨23,0,0,0,0⟩ choice)) hp ht (Nat.le_trans hO.av (by decide))) fun _ _=>?_
    refine J 4 ?_
    refine .c call83 rfl (qS (d:=(s.dF k ⟨23,0,0,0,0⟩ choice).tell 0 0 0 true) hp ht hO.lt (hs.1.trans hO.lt) hO.T hR (Nat.zero_le _) (Nat.zero_le _) (hO.Hj hs ht hw0)) fun qs _=>?_
    refine J 6 ?_
    refine .c call86 rfl (nq (d:=(((s.dF k ⟨23,0,0,0,0⟩ choice).tell 0 0 0 true).fin 0)) (Nat.le_trans (gx.trans j7).1 (by have:=hO.av;show s.av.length+_≤_;omega)) (Nat.le_trans (gx.trans j7).2 (by show 0+_≤_;decide))) fun u75 _=>?_
    refine .aw rfl (af.sP (vs:=[.bool (((s.dF k ⟨23,0,0,0,0⟩ choice).tell 0 0 0 true).fin 0).finish.1.aU,.bool (((s.dF k ⟨23,0,0,0,0⟩ choice).tell 0 0 0 true).fin 0).finish.1.ended,.bool (((s.dF k ⟨23,0,0,0,0⟩ choice).tell 0 0 0 true).fin 0).finish.1.yielded]) (by exact sizeOf93) rfl rfl rfl rfl) ?_
    rintro _ _ ⟨rfl,rfl⟩
    refine J 4 ?_
    rw[vk hat h19 hn rfl]
    refine .hY rfl rfl isAgg93 (by exact sizeOf93) Cells.a rfl fun w s=>⟨u75,?_,trivial,ar .auto s⟩
    rfl
   ·obtain⟨i,hn⟩:∃ i,(dD s.di t.gb)=some i:=Option.isSome_iff_exists.mp (by simpa using h56)
    rw[show((dD s.di t.gb).getD Ins.z)=i from by rw[hn];rfl]
    obtain⟨hI,hIn,hIt⟩:=j6 hO hn
    refine J 4 ?_
    refine .c call72 rfl k8 fun _ _=>?_
    refine JD 4 (fun h67=>?_) fun h67=>?_
    ·refine J 2 ?_
     refine .to (A:=aD ps s.thr) (Bs:=[arr p 0 (bn t),aD (ps.set k none) (s.thr.set k none)]) .auto (bS hp ht) ?_
     refine .c call84 rfl (Cv (d:=(s.dF k i choice)) hp ht hI (hR.gb hpc) h67 hO.mem (Nat.le_trans hO.av (by decide)) hO.lt (hs.1.trans hO.lt) hO.T hR (Nat.zero_le _) (Nat.zero_le _) (hO.Hj hs ht hw0)) fun qs _=>?_
     refine J 6 ?_
     refine .c call86 rfl (nq (d:=(s.dF k i choice).plain) (Nat.le_trans (m4).1 (by have:=hO.av;show s.av.length+_≤_;omega)) (Nat.le_trans (m4).2 (by show 0+_≤_;decide))) fun u75 _=>?_
     refine .aw rfl (af.sP (vs:=[.bool (s.dF k i choice).plain.finish.1.aU,.bool (s.dF k i choice).plain.finish.1.ended,.bool (s.dF k i choice).plain.finish.1.yielded]) (by exact sizeOf93) rfl rfl rfl rfl) ?_
     rintro _ _ ⟨rfl,rfl⟩
     refine J 4 ?_
     rw[pE hat h19 hn h67 rfl]
     refine .hY rfl rfl isAgg93 (by exact sizeOf93) Cells.a rfl fun w s=>⟨u75,?_,trivial,ar .auto s⟩
     rfl
    ·refine J 7 ?_
     refine .p (.add rfl rfl (by omega)) ?_
     refine J 4 ?_
     rw[H8]
     refine J 4 ?_
     refine .to (A:=aD ps (s.thr.set k (some ({t with pc:=t.pc+1 })))) (Bs:=[arr p 0 (bn ({t with pc:=t.pc+1 })),aD (ps.set k none) (s.thr.set k none)]) .auto (cQ (List.getElem?_eq_some_iff.1 ht).1 hp) ?_
     refine .c call85 rfl (Fv (d:=((s.dF k i choice).aj {t with pc:=t.pc+1 })) hp (bV ht) (hO.call hs ht hw0 hI (hIn h67) hIt)) fun qs _=>?_
     refine J 6 ?_
     refine .c call86 rfl (nq (d:=((s.dF k i choice).aj {t with pc:=t.pc+1 }).call) (Nat.le_trans (pF hO.yP.2).1 (by have:=hO.av;show s.av.length+_≤_;omega)) (Nat.le_trans (pF hO.yP.2).2 (by show 0+_≤_;decide))) fun u75 _=>?_
     refine .aw rfl (af.sP (vs:=[.bool ((s.dF k i choice).aj {t with pc:=t.pc+1 }).call.finish.1.aU,.bool ((s.dF k i choice).aj {t with pc:=t.pc+1 }).call.finish.1.ended,.bool ((s.dF k i choice).aj {t with pc:=t.pc+1 }).call.finish.1.yielded]) (by exact sizeOf93) rfl rfl rfl rfl) ?_
     rintro _ _ ⟨rfl,rfl⟩
     refine J 4 ?_
     rw[rM hat h19 hn h67 rfl]
     refine .hY rfl rfl isAgg93 (by exact sizeOf93) Cells.a rfl fun w s=>⟨u75,?_,trivial,ar .auto s⟩
     rfl
end Go.SLYtefdijgllbkmfaaGreat
namespace Go.SLYtefdijgllbkmfaaGreat
open Go Go.RowKit Go.Proofs Go.Proofs.Tryz
attribute [local irreducible] ax aP bA cp bF Y
theorem ux{W:World}{b p:Nat}{ps:List (Option Nat)}{pr:fE}{n:Nat}{t:bc}{fv sv pv:Value}{bt:Nat}{vm:Value}{bg:Nat}{vt:Value}{bk bw:Nat}{vr:Value}(hp:ps[n]?=some (some p))(hn16:n<16)(hR:gJ t){y:Int}:Fn Tryz.prog W 93 [ptr b,.int .i64 (n:Int),.int .u64 y] [arr b 0 (fi fv sv pv pr bt ps vm bg vt bk bw vr),arr p 0 (bn t)] Unit (fun _=>.agg (dr (t.dE y)).toArray) (fun _=>True) (fun _=>[arr b 0 (fi fv sv pv pr bt ps vm bg vt bk bw vr),arr p 0 (bn (t.cE y))]):=by
 refine Fn.intro (N:=50) func93 rfl ntmps93 rfl fun F=>?_
 show ax _ _ _ _ _ _ [arr b 0 (fi fv sv pv pr bt ps vm bg vt bk bw vr),arr p 0 (bn t),F]
 have hRl:=hR.l
 have hRi:=hR.i
 refine J 2 ?_
 refine .aw rfl (af.alloc rfl zeroValue101 rfl) ?_
 rintro _ _ ⟨b6,rfl,rfl⟩
 refine J 8 ?_
 refine .p (.aE n underlying123 sizeOf122 rfl rfl rfl hn16) ?_
 refine .p (.ld rfl (Cell.a (by rw[Nat.mul_one,eK hn16,eG hp]))) ?_
 refine J 3 ?_
 refine .nv (X:=Unit) [2,14,15,16,17,18,19,20,21,22,23,24,25,26,27,28] (fun _=>True) (fun _=>[(2,some (.int .u64 (if t.into = -1 then 0 else y)))]) (fun _=>[arr p 0 (bn (if t.into = -1 then t else t.put t.into y)),arr b6 0 [.int .u64 0,.int .i64 0,.int .u64 0,.int .u64 0,.int .i64 0,.bool false],arr b 0 (fi fv sv pv pr bt ps vm bg vt bk bw vr),F]) ?_ ?_
 ·refine JD 9 (fun h18=>?_) fun h18=>?_
  ·refine .draw [arr p 0 (bn t)] [1,1,1,1,1,1,1,1,1,1,3] rfl (by kernel_rfl) ?_
   refine J 9 ?_
   refine .p (.aE t.into.toNat underlying39 sizeOf38 rfl rfl (by omega) (by omega)) ?_
   refine .d3 rfl (af.st sizeOf38 rfl rfl rfl (Nat.blt_eq.mpr (by show 2+t.into.toNat * 1<18;omega))) ?_
   rintro _ _ ⟨rfl,rfl⟩
   rw[jb y (by omega) (by omega) hRl]
   refine J 1 ?_
   refine .eT () .auto ?_ ?_ ?_
   ·trivial
   ·rw[if_neg (by omega)];exact⟨rfl,trivial⟩
   ·rw[if_neg (by omega)];exact fun w s=>aM.kept .auto w s
  ·refine J 3 ?_
   refine .eT () .auto ?_ ?_ ?_
   ·trivial
   ·rw[if_pos (by omega)];exact⟨rfl,trivial⟩
   ·rw[if_pos (by omega)];exact fun w s=>aM.kept .auto w s
 ·rintro⟨⟩ -
  obtain⟨y1,hy1⟩:∃ y1,y1=(if t.into = -1 then 0 else y):=⟨_,rfl⟩
  obtain⟨t1,h1⟩:∃ t1,t1=(if t.into = -1 then t else t.put t.into y):=⟨_,rfl⟩
  have h1l:t1.aq.length=8:=by
   rw[h1]
   split
   ·exact hRl
   ·rw[jB];exact hRl
  have h1h:t1.handle=t.handle∧t1.op=t.op:=by
   rw[h1]
   split <;> exact⟨rfl,rfl⟩
  rw[← hy1, ← h1]
  refine J 6 ?_
  refine .p (.aE 7 underlying39 sizeOf38 rfl rfl (by omega) (by omega)) ?_
  refine J 1 ?_
  rw[qK (n:=7) 0 (by decide) h1l]
  refine J 9 ?_
  rw[n8]
  refine J 3 ?_
  rw[rE]
  refine J 3 ?_
  refine .draw [arr p 0 (bn {t1.put 7 0 with why:=0,into := -1 })] [1,1,1,1,1,1,1,1,1,1,3] rfl (by kernel_rfl) ?_
  refine J 9 ?_
  refine .p (.Bb (fun v1 v2 v3 v4=>[v1,v2,(.int .u64 0),v3,(.int .i64 0),v4]) rfl rfl rfl rfl (by kernel_rfl)) ?_
  refine .d3 rfl (af.sY (by exact sizeOf101) rfl rfl rfl (by rfl)) ?_
  rintro _ _ ⟨rfl,rfl⟩
  refine J 3 ?_
  rw[Ai t1 h1]
  refine .fh rfl rfl isAgg101 (by exact sizeOf101) Cells.a fun w s=>⟨(),?_,trivial,ar .auto s⟩
  show Ending.returned (Value.agg #[.int .u64 t1.handle,.int .i64 t1.op,.int .u64 0,.int .u64 y1,.int .i64 0,.bool true])=_;rw[h1h.1,h1h.2,hy1];rfl
theorem CE{W:World}{b:Nat}{s:Spc}{k:Int}(hO:jd s):Fn Tryz.prog W 42 [ptr b,.int .i64 k] [eW b s] Value (fun u=>.tuple #[.agg (iK u (s.done k).1).toArray,.int .i64 (s.done k).2.1]) (fun _=>True) (fun u=>[sl aH 1 u (s.done k).1.aC,eW b (s.done k).2.2]):=by
 refine Fn.intro (N:=43) func42 rfl ntmps42 rfl fun F=>?_
 show ax _ _ _ _ _ _ [eW b s,F]
 refine .o1 (C:=eW b s) .auto rfl ?_
 rintro ps -
 refine .iO (C:=cY b ps s) .auto rfl ?_
 rintro fv sv pv bt vm bg vt bk bw vr -
 refine .eS (fun w st=>st.fact .auto gQ) fun hs=>?_
 refine J 2 ?_
 refine .aw rfl (af.alloc rfl zeroValue93 rfl) ?_
 rintro _ _ ⟨b4,rfl,rfl⟩
 refine J 10 ?_
 refine .lf rfl ?_
 refine J 9 ?_
 refine .c call92 rfl (CB hO.dw hO.db) fun _ _=>?_
 refine J 1 ?_
 refine .p (.extract (v:=.agg (dW (s.aO.done k).1).toArray) rfl rfl) ?_
 refine .p (.extract (v:=.int .u64 (s.aO.done k).2.1) rfl rfl) ?_
 refine .p (.extract (v:=.bool (s.aO.done k).2.2.1) rfl rfl) ?_
 refine .aw rfl (af.alloc rfl zeroValue170 rfl) ?_
 rintro _ _ ⟨b6,rfl,rfl⟩
 refine JD 12 (fun h23=>?_) fun h23=>?_
 ·refine J 2 ?_
  refine .p (.o0 ([(.slice none 0 0),(.bool false),(.bool false),(.bool false)]) (by kernel_rfl)) ?_
  refine J 6 ?_
  rw[lQ (by simpa using h23)]
  rw[BI (by simpa using h23)]
  refine .hY rfl rfl isAgg93 (by exact sizeOf93) Cells.a rfl fun w s=>⟨(.slice none 0 0),?_,trivial,ar .auto s⟩
  rfl
 ·have hd1:(s.aO.done k).2.2.1=true:=by simpa using h23
  obtain⟨hdm, -⟩:=D4 hd1
  obtain⟨hw0,t,ht⟩:=hO.JC _ hdm
  obtain⟨hn16,q,t2,hq,ht2,hR⟩:=hO.live hs ht
  have e2:=Option.some.inj (ht.symm.trans ht2)
  obtain rfl:=Option.some.inj e2
  obtain⟨m,hm⟩:∃ m:Nat,(s.aO.done k).1.who.toNat=m:=⟨_,rfl⟩
  rw[hm] at ht hn16 hq
  have hmc:(s.aO.done k).1.who=(m:Int):=by omega
  refine J 3 ?_
  refine .fr .auto (bY hq ht) ?_
  refine .draw [arr b6 0 (dW (s.aO.done k).1),arr b 0 (fi fv sv pv s.di bt ps vm bg vt bk bw vr)] [0,0,0,0,0,1,1,1,1,2,2,2,1,1,3] rfl (by kernel_rfl) ?_
  refine J 8 ?_
  rw[hmc]
  refine J 1 ?_
  refine .c2 call93 rfl (ux hq hn16 hR) fun _ _=>?_
  refine .d2 rfl Kept.auto (af.gD 101 rfl rfl (by kernel_rfl)) (by rintro _ _ ⟨b35,rfl,rfl⟩;exact Kept.auto) ?_
  rintro _ _ ⟨b35,rfl,rfl⟩
  refine .d2 rfl Kept.auto (af.fj (enc:=dr) (k:=6) (t.dE (s.aO.done k).2.1) rfl underlying49 underlying49 typeInfo101 rfl rfl rfl (by decide) rfl rfl rfl .auto rfl .auto (by have:=hO.av;omega) rfl) (by rintro _ _ ⟨v36,rfl,rfl⟩;exact Kept.auto) ?_
  rintro _ _ ⟨v36,rfl,rfl⟩
  refine J 2 ?_
  refine .d3 rfl (af.qf sizeOf49 rfl rfl rfl) ?_
  rintro _ _ ⟨rfl,rfl⟩
  rw[n9]
  refine J 6 ?_
  rw[hmc]
  refine .aw rfl (af.gD 3 rfl rfl (by kernel_rfl)) ?_
  rintro _ _ ⟨b41,rfl,rfl⟩
  refine .p (.iV (fun v1=>[v1,.bool false,.bool false,.bool false]) rfl (by kernel_rfl)) ?_
  refine .aw rfl (af.sY (vs:=[.slice (some ⟨b41,0,none⟩) 1 1,.bool false,.bool false,.bool false]) (by exact sizeOf93) rfl rfl rfl (by rfl)) ?_
  rintro _ _ ⟨rfl,rfl⟩
  refine .to (A:=sl aH 1 (.slice (some ⟨b41,0,none⟩) 1 1) [(m:Int)]) (Bs:=[arr b41 0 [.int .i64 (m:Int)]]) .auto H9 ?_
  refine J 4 ?_
  refine .to (A:=aD ps (s.thr.set m (some (t.cE (s.aO.done k).2.1)))) (Bs:=[arr q 0 (bn (t.cE (s.aO.done k).2.1)),aD (ps.set m none) (s.thr.set m none)]) .auto (cQ (List.getElem?_eq_some_iff.1 ht).1 hq) ?_
  rw[lR hd1 (by rw[hm];exact ht),hm,hmc,show(({s with aO:=(s.aO.done k).2.2.2 }:Spc).cZ m (s.aO.done k).2.1)=({s with aO:=(s.aO.done k).2.2.2 }:Spc).aj m (t.cE (s.aO.done k).2.1) from by unfold Spc.cZ;rw[cO (s:=({s with aO:=(s.aO.done k).2.2.2 }:Spc)) ht]]
  refine .hY rfl rfl isAgg93 (by exact sizeOf93) Cells.a rfl fun w s=>⟨(.slice (some ⟨b41,0,none⟩) 1 1),?_,trivial,ar .auto s⟩
  rfl
theorem uy{W:World}{b:Nat}{s:Spc}{n:Int}(hO:jd s):Fn Tryz.prog W 14 [ptr b,.int .i64 n] [eW b s] Unit (fun _=>.tuple #[.agg (m6 ((s.at n).getD F2)).toArray,.bool (s.at n).isSome]) (fun _=>True) (fun _=>[eW b s]):=by
 refine Fn.intro (N:=41) func14 rfl ntmps14 rfl fun F=>?_
 show ax _ _ _ _ _ _ [eW b s,F]
 refine .o1 (C:=eW b s) .auto rfl ?_
 rintro ps -
 refine .iO (C:=cY b ps s) .auto rfl ?_
 rintro fv sv pv bt vm bg vt bk bw vr -
 refine .eS (fun w st=>st.fact .auto gQ) fun hs=>?_
 refine J 2 ?_
 refine .aw rfl (af.alloc rfl zeroValue41 rfl) ?_
 rintro _ _ ⟨b4,rfl,rfl⟩
 refine J 7 ?_
 refine .c call70 rfl wc fun _ _=>?_
 refine JD 10 (fun h11=>?_) fun h11=>?_
 ·have hap:u6 ps n=none:=by
   cases hh:u6 ps n with
   | none=>rfl
   | some p=>rw[hh] at h11;cases h11
  refine J 2 ?_
  refine .p (.o0 ([(.int .u64 0),(.int .i64 0),(.int .i64 0),(.int .i64 0),(.int .u64 0),(.int .u64 0),(.int .u64 0),(.int .u64 0),(.int .u64 0),(.int .u64 0),(.int .u64 0),(.int .u64 0),(.int .u64 0)]) (by kernel_rfl)) ?_
  refine J 6 ?_
  rw[D0 hs hap hO.lt]
  refine .hY rfl rfl isAgg41 (by exact sizeOf41) Cells.a rfl fun w s=>⟨(),?_,trivial,ar .auto s⟩
  rfl
 ·obtain⟨p,hap⟩:∃ p,u6 ps n=some p:=by
   cases hh:u6 ps n with
   | none=>rw[hh] at h11;cases h11
   | some p=>exact⟨p,rfl⟩
  rw[hap]
  obtain⟨k,t,rfl,hk16,hp,ht,hat⟩:=yO hs hap hO.lt
  refine .iO (C:=cY b ps s) .auto rfl ?_
  rintro fv sv pv bt vm bg vt bk bw vr -
  refine .fr .auto (bY hp ht) ?_
  refine J 3 ?_
  refine .draw [arr p 0 (bn t)] [1,1,1,1,1,1,1,1,1,1,1,1,1,1,1,1,1,1,1,1,1,1,1,1,1,1,1,1,3,1] rfl (by kernel_rfl) ?_
  refine J 22 ?_
  refine .p (.la rfl (Cells.iE (ds:=[.int .u64 (t.aq.getD 0 0),.int .u64 (t.aq.getD 1 0),.int .u64 (t.aq.getD 2 0),.int .u64 (t.aq.getD 3 0),.int .u64 (t.aq.getD 4 0),.int .u64 (t.aq.getD 5 0),.int .u64 (t.aq.getD 6 0),.int .u64 (t.aq.getD 7 0)]) (Cells.a (cs:=bn t)) rfl)) ?_
  refine J 4 ?_
  refine .p (.C8 (fun _ _ _ _ _ _=>m6 t) rfl rfl rfl rfl rfl rfl (by kernel_rfl)) ?_
  refine .d3 rfl (af.sY (by exact sizeOf41) rfl rfl rfl (by rfl)) ?_
  rintro _ _ ⟨rfl,rfl⟩
  refine J 4 ?_
  refine .to (A:=aD ps s.thr) (Bs:=[arr p 0 (bn t),aD (ps.set k none) (s.thr.set k none)]) .auto (bS hp ht) ?_
  rw[hat]
  refine .hY rfl rfl isAgg41 (by exact sizeOf41) Cells.a rfl fun w s=>⟨(),?_,trivial,ar .auto s⟩
  rfl
end Go.SLYtefdijgllbkmfaaGreat
namespace Go.SLYtefdijgllbkmfaaGreat
open Go Go.RowKit Go.Proofs Go.Proofs.Tryz
attribute [local irreducible] ax aP bA cp bF Y
theorem CF{W:World}{b:Nat}{s:Spc}(hO:jd s):Fn Tryz.prog W 44 [ptr b] [eW b s] Value (fun u=>.agg (iK u s.tick.1).toArray) (fun _=>True) (fun u=>[sl aH 1 u s.ay.due,eW b s.tick.2]):=by
 refine Fn.intro (N:=35) func44 rfl ntmps44 rfl fun F=>?_
 show ax _ _ _ _ _ _ [eW b s,F]
 refine .o1 (C:=eW b s) .auto rfl ?_
 rintro ps -
 refine .iO (C:=cY b ps s) .auto rfl ?_
 rintro fv sv pv bt vm bg vt bk bw vr -
 refine .eS (fun w st=>st.fact .auto gQ) fun hs=>?_
 have hdl:=Nat.le_trans (xe s.ay) hO.wl
 have hrl:=hO.av
 refine J 2 ?_
 refine .aw rfl (af.alloc rfl zeroValue93 rfl) ?_
 rintro _ _ ⟨b2,rfl,rfl⟩
 refine J 9 ?_
 refine .lf rfl ?_
 refine J 8 ?_
 refine .c call96 rfl (zH hO.wn hO.wl) fun u13 _=>?_
 refine J 12 ?_
 refine .df (X:=Nat) [5,16,17,18,19,20,21,22,23,24,25,26,27,28,29,30,31,32] (fun k=>s.ay.due.length-k) (fun k=>k≤s.ay.due.length) (fun k=>[(16,some (.int .i64 (k:Int)))]) (fun k=>[cY b ps (cW ({s with ay:=s.ay.tick.2 }:Spc) (s.ay.due.take k)),sl aH 1 u13 s.ay.due,arr b2 0 [.slice none 0 0,.bool false,.bool false,.bool false],F]) 0 ?_ ?_ ?_ ?_
 ·exact Nat.zero_le _
 ·exact⟨rfl,trivial⟩
 ·exact fun w s=>aM.kept .auto w s
 rintro k hk
 refine JD 6 (fun h17=>?_) fun h17=>?_
 ·refine J 7 ?_
  obtain⟨x,hx⟩:=aB (show k<s.ay.due.length by omega)
  have hdl2:∀ x∈s.ay.due,0≤x∧bZ ps s x.toNat:=fun x hx=>by
   obtain⟨y,hy,e⟩:=Ap hx
   obtain⟨h0,u,hu⟩:=hO.JE y hy
   rw[e] at h0 hu
   exact⟨h0,hO.live hs hu⟩
  obtain⟨hx0,hxl⟩:=hdl2 x (List.mem_of_getElem? hx)
  obtain⟨hn16,q,t,hq,ht,hR⟩:=vq x.toNat (s.ay.due.take k) ({s with ay:=s.ay.tick.2 }:Spc) (hxl.of rfl) (fun z hz=>(hdl2 z (List.mem_of_mem_take hz)).2.of rfl)
  have hwr:=og ({s with ay:=s.ay.tick.2 }:Spc) (s.ay.due.take k)
  rw[List.length_take] at hwr
  simp only at hwr
  have hxc:x=((x.toNat:Nat):Int):=by omega
  refine J 4 ?_
  refine .iO (C:=cY b ps (cW ({s with ay:=s.ay.tick.2 }:Spc) (s.ay.due.take k))) .auto rfl ?_
  rintro fv sv pv bt vm bg vt bk bw vr -
  refine .fr .auto (bY hq ht) ?_
  refine .draw [arr b 0 (fi fv sv pv (cW ({s with ay:=s.ay.tick.2 }:Spc) (s.ay.due.take k)).di bt ps vm bg vt bk bw vr)] [0,0,0,0,0,1,1,2,2,2,1,1,3] rfl (by kernel_rfl) ?_
  rw[hxc]
  refine J 7 ?_
  refine .c2 call93 rfl (ux (n:=x.toNat) hq hn16 hR) fun _ _=>?_
  refine .d2 rfl Kept.auto (af.gD 101 rfl rfl (by kernel_rfl)) (by rintro _ _ ⟨b28,rfl,rfl⟩;exact Kept.auto) ?_
  rintro _ _ ⟨b28,rfl,rfl⟩
  refine .d2 rfl Kept.auto (af.fj (enc:=dr) (k:=6) (t.dE 0) rfl underlying49 underlying49 typeInfo101 rfl rfl rfl (by decide) rfl rfl rfl .auto rfl .auto (by have e:(cW ({s with ay:=s.ay.tick.2 }:Spc) (s.ay.due.take k)).av.length=s.av.length+min k s.ay.due.length:=hwr;omega) rfl) (by rintro _ _ ⟨v29,rfl,rfl⟩;exact Kept.auto) ?_
  rintro _ _ ⟨v29,rfl,rfl⟩
  refine J 2 ?_
  refine .d3 rfl (af.qf sizeOf49 rfl rfl rfl) ?_
  rintro _ _ ⟨rfl,rfl⟩
  rw[n9]
  refine .to (A:=aD ps ((cW ({s with ay:=s.ay.tick.2 }:Spc) (s.ay.due.take k)).thr.set x.toNat (some (t.cE 0)))) (Bs:=[arr q 0 (bn (t.cE 0)),aD (ps.set x.toNat none) ((cW ({s with ay:=s.ay.tick.2 }:Spc) (s.ay.due.take k)).thr.set x.toNat none)]) .auto (cQ (List.getElem?_eq_some_iff.1 ht).1 hq) ?_
  refine J 7 ?_
  refine .bB (k+1) .auto rfl ?_ ?_ ?_ ?_
  ·omega
  ·show k+1≤_;omega
  ·exact⟨rfl,trivial⟩
  ·rw[dc hx,vo,show(cW ({s with ay:=s.ay.tick.2 }:Spc) (s.ay.due.take k)).cZ x.toNat 0=(cW ({s with ay:=s.ay.tick.2 }:Spc) (s.ay.due.take k)).aj x.toNat (t.cE 0) from by unfold Spc.cZ;rw[cO ht],cO ht];exact fun w s=>aM.kept .auto w s
 ·refine J 7 ?_
  refine .eS (fun w st=>(Rd.s (v:=u13) (enc:=aH) (k:=1) (xs:=s.ay.due) w st).1) fun hr=>?_
  obtain⟨a13,c13,rfl, -, -⟩:=hr
  refine J 1 ?_
  refine .p (.iV (fun v1=>[v1,(.bool false),(.bool false),(.bool false)]) rfl (by kernel_rfl)) ?_
  refine .aw rfl (af.sY (vs:=[.slice a13 s.ay.due.length c13,.bool false,.bool false,.bool false]) (by exact sizeOf93) rfl rfl rfl (by rfl)) ?_
  rintro _ _ ⟨rfl,rfl⟩
  refine J 3 ?_
  have hkk:k=s.ay.due.length:=by omega
  rw[hkk,List.take_length]
  refine .fh rfl rfl isAgg93 (by exact sizeOf93) Cells.a fun w s=>⟨_,?_,trivial,ar .auto s⟩
  rfl
theorem zK{W:World}{b:Nat}{s:Spc}{n:Int}(hO:jd s):Fn Tryz.prog W 16 [ptr b,.int .i64 n] [eW b s] Unit (fun _=>.int .i64 (s.class n)) (fun _=>True) (fun _=>[eW b s]):=by
 refine Fn.intro (N:=37) func16 rfl ntmps16 rfl fun F=>?_
 show ax _ _ _ _ _ _ [eW b s,F]
 refine .o1 (C:=eW b s) .auto rfl ?_
 rintro ps -
 refine .iO (C:=cY b ps s) .auto rfl ?_
 rintro fv sv pv bt vm bg vt bk bw vr -
 refine .eS (fun w st=>st.fact .auto gQ) fun hs=>?_
 refine J 9 ?_
 refine .c call70 rfl wc fun _ _=>?_
 refine J 9 ?_
 refine .part (t:=13) rfl (fun h13=>?_) (fun h13=>?_)
 ·refine J 8 ?_
  refine .iD rfl ?_
  refine J 7 ?_
  have hap:u6 ps n=none:=by
   cases hh:u6 ps n with
   | none=>rfl
   | some p=>rw[hh] at h13;cases h13
  rw[rN (D0 hs hap hO.lt)]
  exact JR 0 ()
 ·obtain⟨p,hap⟩:∃ p,u6 ps n=some p:=by
   cases hh:u6 ps n with
   | none=>rw[hh] at h13;cases h13
   | some p=>exact⟨p,rfl⟩
  rw[hap]
  obtain⟨k,t,rfl,hk16,hp,ht,hat⟩:=yO hs hap hO.lt
  refine .iO (C:=cY b ps s) .auto rfl ?_
  rintro fv sv pv bt vm bg vt bk bw vr -
  refine .fr .auto (bY hp ht) ?_
  refine JD 8 (fun h19=>?_) fun h19=>?_
  ·refine J 7 ?_
   refine .to (A:=aD ps s.thr) (Bs:=[arr p 0 (bn t),aD (ps.set k none) (s.thr.set k none)]) .auto (bS hp ht) ?_
   rw[yV hat h19]
   exact JR 0 ()
  ·refine J 3 ?_
   refine .s4 [arr b 0 (fi fv sv pv s.di bt ps vm bg vt bk bw vr),arr p 0 (bn t)] [0,0,0,0,0,0,0,0,2,0,0,0,4,2,0] [0,1,2,3,4,5,6,7,8,9,10,11,12,13,14] rfl (by kernel_rfl) ?_
   refine bF.q rfl rfl rfl Kept.auto (Y.m rfl) ?_
   refine bF.q rfl rfl rfl Kept.auto (Y.n rfl) ?_
   refine bF.q rfl rfl rfl Kept.auto (Y.gm 25 underlying126 rfl sizeOf25 rfl) ?_
   refine bF.q rfl rfl rfl Kept.auto (Y.CN isAgg25 rfl (Cells.iE (ds:=wY fv sv pv s.di) (Cells.a (cs:=fi fv sv pv s.di bt ps vm bg vt bk bw vr)) rfl) (by exact sizeOf25)) ?_
   refine bF.q rfl rfl rfl Kept.auto (Y.m rfl) ?_
   refine bF.q rfl rfl rfl Kept.auto (Y.n rfl) ?_
   refine bF.q rfl rfl rfl Kept.auto (Y.gm 145 underlying147 rfl sizeOf145 rfl) ?_
   refine bF.q rfl rfl rfl Kept.auto (Y.CN isAgg145 rfl (Cells.iE (ds:=iy t.gb) (Cells.a (cs:=bn t)) rfl) (by exact sizeOf145)) ?_
   refine bF.ed rfl (.inl rfl) rfl (fun _=>Kept.auto) call71 rfl (sJ (p:=s.di) (f:=t.gb) hO.w8.1 hO.w8.2) .auto (fun _ _=>Kept.auto) ?_
   rintro⟨⟩ -
   refine bF.q rfl rfl rfl Kept.auto (Y.m rfl) ?_
   refine bF.q rfl rfl rfl Kept.auto (Y.extract (v:=.agg (dq ((dD s.di t.gb).getD Ins.z)).toArray) rfl rfl) ?_
   refine bF.q rfl rfl rfl Kept.auto (Y.extract (v:=.bool (dD s.di t.gb).isSome) rfl rfl) ?_
   refine bF.fresh rfl rfl rfl (by decide) Kept.auto (lC zeroValue131 rfl) ?_
   rintro b6
   refine bF.H6 rfl rfl (by exact sizeOf131) rfl rfl rfl (by rfl) Kept.auto Kept.auto ?_
   refine bF.q rfl rfl rfl Kept.auto (Y.a rfl) ?_
   refine bF.nil ?_
   refine JD 8 (fun h33=>?_) fun h33=>?_
   ·refine J 7 ?_
    refine .to (A:=aD ps s.thr) (Bs:=[arr p 0 (bn t),aD (ps.set k none) (s.thr.set k none)]) .auto (bS hp ht) ?_
    rw[BH hat h19 (Option.isNone_iff_eq_none.mp (by simpa using h33))]
    exact JR 0 ()
   ·obtain⟨i,hn⟩:∃ i,(dD s.di t.gb)=some i:=Option.isSome_iff_exists.mp (by simpa using h33)
    rw[show((dD s.di t.gb).getD Ins.z)=i from by rw[hn];rfl]
    refine J 6 ?_
    refine .c call72 rfl k8 fun _ _=>?_
    refine J 4 ?_
    refine .to (A:=aD ps s.thr) (Bs:=[arr p 0 (bn t),aD (ps.set k none) (s.thr.set k none)]) .auto (bS hp ht) ?_
    rw[yW hat h19 hn]
    exact JR 0 ()
theorem oV{W:World}{b:Nat}{s:Spc}(hl:s.av.length≤1000000000):Fn Tryz.prog W 22 [ptr b] [eW b s] Value (fun u=>u) (fun _=>True) (fun u=>[sl dr 6 u s.av,eW b s]):=by
 refine Fn.intro (N:=11) func22 rfl ntmps22 rfl fun F=>?_
 show ax _ _ _ _ _ _ [eW b s,F]
 refine .o1 (C:=eW b s) .auto rfl ?_
 rintro ps -
 refine .iO (C:=cY b ps s) .auto rfl ?_
 rintro fv sv pv bt vm bg vt bk bw vr -
 refine J 12 ?_
 refine .lf rfl ?_
 refine J 8 ?_
 refine .c call75 rfl (I7 (A:=sl dr 6 vr s.av) (Rd.sl .here) hl) fun u9 _=>?_
 refine .c call74 rfl Kd fun u10 _=>?_
 exact JR 4 u10
theorem xZ{W:World}{b:Nat}{s:Spc}(hl:s.mem.length≤1000000000):Fn Tryz.prog W 24 [ptr b] [eW b s] Value (fun u=>u) (fun _=>True) (fun u=>[sl bM 1 u s.mem,eW b s]):=by
 refine Fn.intro (N:=11) func24 rfl ntmps24 rfl fun F=>?_
 show ax _ _ _ _ _ _ [eW b s,F]
 refine .o1 (C:=eW b s) .auto rfl ?_
 rintro ps -
 refine .iO (C:=cY b ps s) .auto rfl ?_
 rintro fv sv pv bt vm bg vt bk bw vr -
 refine J 12 ?_
 refine .lf rfl ?_
 refine J 8 ?_
 refine .c call77 rfl (I6 (A:=sl bM 1 vm s.mem) (Rd.sl .here) hl) fun u9 _=>?_
 refine .c call76 rfl Kc fun u10 _=>?_
 exact JR 4 u10
end Go.SLYtefdijgllbkmfaaGreat
