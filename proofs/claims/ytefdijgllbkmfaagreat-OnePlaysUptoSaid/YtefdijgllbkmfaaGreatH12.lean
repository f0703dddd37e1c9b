/- Walks of functions, and what they compute. Conditions: none, this text proves no statement. -/
import Derived.Test.YtefdijgllbkmfaaGreatH06
import Derived.Test.YtefdijgllbkmfaaGreatProg
import Derived.Test.YtefdijgllbkmfaaGreatH11
import Derived.Test.YtefdijgllbkmfaaGreatH03
import Derived.KernelRfl
import Derived.Test.YtefdijgllbkmfaaGreatH05
import Derived.Shelf.Sort.Plain
import Derived.Shelf.Slices.In.SortNone
import Derived.Lib.SortBridge
import Derived.Test.YtefdijgllbkmfaaGreatH09
import Derived.Test.YtefdijgllbkmfaaGreatH04
set_option maxRecDepth 20000
set_option maxHeartbeats 4000000
namespace Go.SLYtefdijgllbkmfaaGreat
open Go Go.RowKit Go.Proofs Go.Proofs.Tryz
attribute [local irreducible] ax aQ bu cj bQ Y
theorem F4{W:World}{A:aa}{x:Ptr}{c:Nat}{who:Int}:Fn Tryz.prog W 300 [.agg (eP x).toArray,ptr c] [seps [arr c 0 [.int .i64 who],A]] Unit (fun _=>.bool (decide (x.who=who))) (fun _=>True) (fun _=>[seps [arr c 0 [.int .i64 who],A]]):=by
 refine Fn.intro (N:=8) func300 rfl ntmps300 rfl fun F=>?_
 show ax _ _ _ _ _ _ [seps [arr c 0 [.int .i64 who],A],F]
 refine .fY .auto ?_
 refine J 2 ?_
 refine .aw rfl (af.box rfl rfl rfl) ?_
 rintro _ _ ⟨b2,rfl,rfl⟩
 exact JR 13 ()
theorem tm{W:World}{b:Nat}{t:Tub}{who:Int}(hl:sb t):Fn Tryz.prog W 265 [ptr b,.int .i64 who] [il b t] Unit (fun _=>.bool (t.waits who)) (fun _=>True) (fun _=>[il b t]):=by
 refine Fn.intro (N:=19) func265 rfl ntmps265 rfl fun F=>?_
 show ax _ _ _ _ _ _ [il b t,F]
 refine .o3 (C:=il b t) .auto rfl ?_
 rintro vw vp vg -
 obtain⟨hl1,hl2,hl3⟩:=hl
 refine J 2 ?_
 refine .aw rfl (af.box rfl rfl rfl) ?_
 rintro _ _ ⟨b3,rfl,rfl⟩
 refine J 4 ?_
 refine .draw [] [1,1,1,1,1,3,1,1,1,1,1,1,3,1,1] rfl (by kernel_rfl) ?_
 refine J 5 ?_
 refine .c call298 rfl (CY (A:=sl aL 1 vg t.bC) (Rd.sl .here) (by omega)) fun _ _=>?_
 refine J 1 ?_
 apply bu.gj 7 18 11 [11,12,13,14,15,16,17,18] rfl
 ·intro h11
  refine J 4 ?_
  refine .g (.makeFunc rfl rfl) ?_
  refine .dg rfl rfl rfl (af.eO rfl call299 rfl (tH (A:=seps [arr b3 0 [.int .i64 who],sl eP 2 vp t.bP]) (p:=fun p=>decide (p.who=who)) (Rd.lE (Rd.sl (.there .here))) (by omega) call300 (fun x _=>F4)) .auto) ?_
  rintro _ _ ⟨⟨⟩, -,rfl,rfl⟩
  refine .fY .auto ?_
  exact JS 2
 ·intro h11
  refine J 5 ?_
  refine .AD rfl rfl rfl rfl ?_
  exact JS 2
 exact JR 4 ()
theorem Ka{W:World}{b i:Nat}{cs:List Value}{v:Value}{xs:List Int}{x:Int}(hi:cs[i]?=some v)(hx:xs[0]?=some x)(hl:xs.length≤1000000):Fn Tryz.prog W 266 [.pointer (some ⟨b,i,none⟩)] [arr b 0 cs,sl aL 1 v xs] Value (fun _=>.int .i64 x) (fun _=>True) (fun u=>[arr b 0 (cs.set i u),sl aL 1 u (xs.eraseIdx 0)]):=by
 refine Fn.intro (N:=16) func266 rfl ntmps266 rfl fun F=>?_
 show ax _ _ _ _ _ _ [arr b 0 cs,sl aL 1 v xs,F]
 have hil:=(List.getElem?_eq_some_iff.1 hi).1
 have hxl:=(List.getElem?_eq_some_iff.1 hx).1
 refine J 9 ?_
 refine .p (.ld rfl (Cell.a hi)) ?_
 refine J 10 ?_
 refine .p (.ld rfl (Cell.a hi)) ?_
 refine .c call301 rfl (HW (i:=0) hxl (by omega)) fun u13 _=>?_
 refine J 1 ?_
 refine .aw rfl (af.pz sizeOf23 rfl rfl (Nat.blt_eq.mpr hil)) ?_
 rintro _ _ ⟨rfl,rfl⟩
 exact JR 9 u13
theorem Kb{W:World}{b i:Nat}{cs:List Value}{v:Value}{xs:List Int}{x:Int}(hi:cs[i]?=some v)(hx:xs[0]?=some x)(hl:xs.length≤1000000):Fn Tryz.prog W 267 [.pointer (some ⟨b,i,none⟩)] [arr b 0 cs,sl bF 1 v xs] Value (fun _=>.int .u64 x) (fun _=>True) (fun u=>[arr b 0 (cs.set i u),sl bF 1 u (xs.eraseIdx 0)]):=by
 refine Fn.intro (N:=16) func267 rfl ntmps267 rfl fun F=>?_
 show ax _ _ _ _ _ _ [arr b 0 cs,sl bF 1 v xs,F]
 have hil:=(List.getElem?_eq_some_iff.1 hi).1
 have hxl:=(List.getElem?_eq_some_iff.1 hx).1
 refine J 9 ?_
 refine .p (.ld rfl (Cell.a hi)) ?_
 refine J 10 ?_
 refine .p (.ld rfl (Cell.a hi)) ?_
 refine .c call302 rfl (HX (i:=0) hxl (by omega)) fun u13 _=>?_
 refine J 1 ?_
 refine .aw rfl (af.pz sizeOf55 rfl rfl (Nat.blt_eq.mpr hil)) ?_
 rintro _ _ ⟨rfl,rfl⟩
 exact JR 9 u13
theorem Kc{W:World}{b i:Nat}{cs:List Value}{v:Value}{xs:List Ptr}{x:Ptr}(hi:cs[i]?=some v)(hx:xs[0]?=some x)(hl:xs.length≤1000000):Fn Tryz.prog W 268 [.pointer (some ⟨b,i,none⟩)] [arr b 0 cs,sl eP 2 v xs] Value (fun _=>.agg (eP x).toArray) (fun _=>True) (fun u=>[arr b 0 (cs.set i u),sl eP 2 u (xs.eraseIdx 0)]):=by
 refine Fn.intro (N:=16) func268 rfl ntmps268 rfl fun F=>?_
 show ax _ _ _ _ _ _ [arr b 0 cs,sl eP 2 v xs,F]
 have hil:=(List.getElem?_eq_some_iff.1 hi).1
 have hxl:=(List.getElem?_eq_some_iff.1 hx).1
 refine J 2 ?_
 refine .aw rfl (af.alloc rfl zeroValue363 rfl) ?_
 rintro _ _ ⟨b2,rfl,rfl⟩
 refine J 6 ?_
 refine .p (.ld rfl (Cell.a hi)) ?_
 refine J 2 ?_
 refine .aw rfl (af.alloc rfl zeroValue363 rfl) ?_
 rintro _ _ ⟨b3,rfl,rfl⟩
 refine J 8 ?_
 refine .p (.ld rfl (Cell.a hi)) ?_
 refine .c call303 rfl (HV (i:=0) hxl (by omega)) fun u13 _=>?_
 refine J 1 ?_
 refine .aw rfl (af.pz sizeOf207 rfl rfl (Nat.blt_eq.mpr hil)) ?_
 rintro _ _ ⟨rfl,rfl⟩
 refine J 9 ?_
 refine .fw rfl rfl isAgg363 (by exact sizeOf363) Cells.a fun w s=>⟨u13,?_,trivial,ar .auto s⟩
 rfl
theorem F5{W:World}{b:Nat}{t:Tub}{who:Int}(hl:sb t){x:Int}:Fn Tryz.prog W 216 [ptr b,.int .i64 who,.int .u64 x] [il b t] Unit (fun _=>.tuple #[.bool (t.put who x).1,.int .i64 (t.put who x).2.1,.bool (t.put who x).2.2.1]) (fun _=>True) (fun _=>[il b (t.put who x).2.2.2]):=by
 refine Fn.intro (N:=61) func216 rfl ntmps216 rfl fun F=>?_
 show ax _ _ _ _ _ _ [il b t,F]
 refine J 16 ?_
 refine .cg call265 rfl (tm hl) fun _ _=>?_
 refine JD 4 (fun h9=>?_) fun h9=>?_
 ·refine J 10 ?_
  rw[ug h9]
  refine .lK rfl rfl rfl rfl fun w s=>⟨(),?_,trivial,ar .auto s⟩
  rfl
 ·refine J 2 ?_
  refine .o3 (C:=il b t) .auto rfl ?_
  rintro vw vp vg -
  obtain⟨hl1,hl2,hl3⟩:=hl
  refine JD 9 (fun h17=>?_) fun h17=>?_
  ·refine J 2 ?_
   obtain⟨w,r,hw⟩:=vR (l:=t.bC) (by omega)
   refine J 3 ?_
   refine .c call266 rfl (Ka (i:=3) (v:=vg) (xs:=t.bC) (x:=w) rfl (by rw[hw];rfl) (by omega)) fun u27 _=>?_
   rw[show t.bC.eraseIdx 0=r from by rw[hw];rfl]
   refine J 8 ?_
   rw[ou h9 hw]
   refine .lK rfl rfl rfl rfl fun w s=>⟨(),?_,trivial,ar .auto s⟩
   rfl
  ·refine J 1 ?_
   refine .draw [] [1,1,1,1,1,1,1,1,1,1,1] rfl (by kernel_rfl) ?_
   have hg0:t.bC=[]:=zx (by omega)
   refine JD 13 (fun h28=>?_) fun h28=>?_
   ·refine J 8 ?_
    refine .aw rfl (af.gQ 38 rfl rfl (by kernel_rfl)) ?_
    rintro _ _ ⟨b45,rfl,rfl⟩
    refine .aw rfl (af.fi (enc:=bF) (k:=1) x rfl underlying55 underlying55 typeInfo38 rfl rfl rfl (by decide) rfl rfl rfl .auto rfl .auto (by omega) rfl) ?_
    rintro _ _ ⟨v46,rfl,rfl⟩
    refine J 2 ?_
    refine .aw rfl (af.pz sizeOf55 rfl rfl rfl) ?_
    rintro _ _ ⟨rfl,rfl⟩
    refine J 12 ?_
    rw[lV h9 hg0 h28]
    refine .lK rfl rfl rfl rfl fun w s=>⟨(),?_,trivial,ar .auto s⟩
    rfl
   ·refine J 12 ?_
    refine .p (.gH (fun v1 v2=>[v1,v2]) rfl rfl (by kernel_rfl)) ?_
    refine .aw rfl (af.gQ 363 rfl rfl (by kernel_rfl)) ?_
    rintro _ _ ⟨b57,rfl,rfl⟩
    refine .aw rfl (af.fi (enc:=eP) (k:=2) (⟨who,x⟩:Ptr) rfl underlying207 underlying207 typeInfo363 rfl rfl rfl (by decide) rfl rfl rfl .auto rfl .auto (by omega) rfl) ?_
    rintro _ _ ⟨v58,rfl,rfl⟩
    refine J 2 ?_
    refine .aw rfl (af.pz sizeOf207 rfl rfl rfl) ?_
    rintro _ _ ⟨rfl,rfl⟩
    refine J 10 ?_
    rw[lW h9 hg0 h28]
    refine .lK rfl rfl rfl rfl fun w s=>⟨(),?_,trivial,ar .auto s⟩
    rfl
theorem F6{W:World}{b:Nat}{t:Tub}{who:Int}(hl:sb t):Fn Tryz.prog W 217 [ptr b,.int .i64 who] [il b t] Unit (fun _=>.tuple #[.int .u64 (t.get who).1,.bool (t.get who).2.1,.int .i64 (t.get who).2.2.1,.bool (t.get who).2.2.2.1]) (fun _=>True) (fun _=>[il b (t.get who).2.2.2.2]):=by
 refine Fn.intro (N:=64) func217 rfl ntmps217 rfl fun F=>?_
 show ax _ _ _ _ _ _ [il b t,F]
 refine J 17 ?_
 refine .cg call265 rfl (tm hl) fun _ _=>?_
 refine JD 4 (fun h10=>?_) fun h10=>?_
 ·refine J 11 ?_
  rw[pL h10]
  refine .Gt rfl rfl rfl rfl rfl fun w s=>⟨(),?_,trivial,ar .auto s⟩
  rfl
 ·refine J 2 ?_
  refine .o3 (C:=il b t) .auto rfl ?_
  rintro vw vp vg -
  obtain⟨hl1,hl2,hl3⟩:=hl
  refine JD 9 (fun h18=>?_) fun h18=>?_
  ·refine J 2 ?_
   have hw0:t.words=[]:=zx (by omega)
   refine J 6 ?_
   refine .aw rfl (af.gQ 3 rfl rfl (by kernel_rfl)) ?_
   rintro _ _ ⟨b31,rfl,rfl⟩
   refine .aw rfl (af.fi (enc:=aL) (k:=1) who rfl underlying23 underlying23 typeInfo3 rfl rfl rfl (by decide) rfl rfl rfl .auto rfl .auto (by omega) rfl) ?_
   rintro _ _ ⟨v32,rfl,rfl⟩
   refine J 2 ?_
   refine .aw rfl (af.pz sizeOf23 rfl rfl rfl) ?_
   rintro _ _ ⟨rfl,rfl⟩
   refine J 13 ?_
   rw[get_none h10 hw0]
   refine .Gt rfl rfl rfl rfl rfl fun w s=>⟨(),?_,trivial,ar .auto s⟩
   rfl
  ·refine J 5 ?_
   obtain⟨x,r,hw⟩:=vR (l:=t.words) (by omega)
   refine J 3 ?_
   refine .c call267 rfl (Kb (i:=1) (v:=vw) (xs:=t.words) (x:=x) rfl (by rw[hw];rfl) (by omega)) fun u38 _=>?_
   rw[show t.words.eraseIdx 0=r from by rw[hw];rfl]
   refine JD 14 (fun h44=>?_) fun h44=>?_
   ·refine J 11 ?_
    rw[my h10 hw (zx (by omega))]
    refine .Gt rfl rfl rfl rfl rfl fun w s=>⟨(),?_,trivial,ar .auto s⟩
    rfl
   ·refine J 4 ?_
    obtain⟨p,q,hp⟩:=vR (l:=t.bP) (by omega)
    refine J 3 ?_
    refine .c call268 rfl (Kc (i:=2) (v:=vp) (xs:=t.bP) (x:=p) rfl (by rw[hp];rfl) (by omega)) fun u49 _=>?_
    rw[show t.bP.eraseIdx 0=q from by rw[hp];rfl]
    refine .aw rfl (af.alloc rfl zeroValue363 rfl) ?_
    rintro _ _ ⟨b9,rfl,rfl⟩
    refine J 4 ?_
    refine .draw [arr b 0 [.int .i64 t.room,u38,u49,vg],arr b9 0 (eP p)] [0,0,0,0,0,1,1,2,2,1,1,3] rfl (by kernel_rfl) ?_
    refine J 7 ?_
    refine .d2 rfl Kept.auto (af.gQ 38 rfl rfl (by kernel_rfl)) (by rintro _ _ ⟨b57,rfl,rfl⟩;exact Kept.auto) ?_
    rintro _ _ ⟨b57,rfl,rfl⟩
    refine .d2 rfl Kept.auto (af.fi (enc:=bF) (k:=1) p.x rfl underlying55 underlying55 typeInfo38 rfl rfl rfl (by decide) rfl rfl rfl .auto rfl .auto (by have h5:r.length+1=t.words.length:=(by rw[hw];rfl);omega) rfl) (by rintro _ _ ⟨v58,rfl,rfl⟩;exact Kept.auto) ?_
    rintro _ _ ⟨v58,rfl,rfl⟩
    refine J 2 ?_
    refine .d3 rfl (af.pz sizeOf55 rfl rfl rfl) ?_
    rintro _ _ ⟨rfl,rfl⟩
    refine J 3 ?_
    refine .draw [] [1,1,1,1,1,1,1] rfl (by kernel_rfl) ?_
    refine J 10 ?_
    rw[mz h10 hw hp]
    refine .Gt rfl rfl rfl rfl rfl fun w s=>⟨(),?_,trivial,ar .auto s⟩
    rfl
theorem Db{W:World}{k:Int}{n:Nat}(hn:0<n)(hl:n≤1000000000):Fn Tryz.prog W 136 [.int .i64 k,.int .i64 (n:Int)] [] Unit (fun _=>.int .i64 ((pick k n:Nat):Int)) (fun _=>True) (fun _=>[]):=by
 refine Fn.intro (N:=12) func136 rfl ntmps136 rfl fun F=>?_
 show ax _ _ _ _ _ _ [F]
 refine J 9 ?_
 refine .p (.rem rfl rfl (by omega)) ?_
 refine J 1 ?_
 refine .p (.add rfl rfl (AP hn hl)) ?_
 refine J 1 ?_
 refine .p (.dJ (Y.rem rfl rfl (by omega)) (rU hn)) ?_
 exact JR 4 ()
theorem Lf{W:World}{A:aa}{x r:pE}{c:Nat}:Fn Tryz.prog W 264 [.agg (ec x).toArray,ptr c] [seps [arr c 0 (ec r),A]] Unit (fun _=>.bool (decide (x.who=r.who))) (fun _=>True) (fun _=>[seps [arr c 0 (ec r),A]]):=by
 refine Fn.intro (N:=9) func264 rfl ntmps264 rfl fun F=>?_
 show ax _ _ _ _ _ _ [seps [arr c 0 (ec r),A],F]
 refine .fY .auto ?_
 refine J 2 ?_
 refine .aw rfl (af.box rfl rfl rfl) ?_
 rintro _ _ ⟨b2,rfl,rfl⟩
 refine .mem (H':=[arr b2 0 (ec x),arr c 0 (ec r),A,F]) (fun w s=>s) ?_
 exact JR 14 ()
theorem F7{W:World}{b:Nat}{d:jC}{r:pE}(hl:d.wait.length≤1000000):Fn Tryz.prog W 215 [ptr b,.agg (ec r).toArray] [nS b d] Unit (fun _=>.int .i64 (d.ask r).1) (fun _=>True) (fun _=>[nS b (d.ask r).2]):=by
 refine Fn.intro (N:=40) func215 rfl ntmps215 rfl fun F=>?_
 show ax _ _ _ _ _ _ [nS b d,F]
 refine .o2 (C:=nS b d) .auto rfl ?_
 rintro vb vw -
 refine J 2 ?_
 refine .aw rfl (af.box rfl rfl rfl) ?_
 rintro _ _ ⟨b3,rfl,rfl⟩
 refine .mem (H':=[arr b3 0 (ec r),arr b 0 [vb,vw],sl bF 1 vb d.blocks,sl ec 4 vw d.wait,F]) (fun w s=>s) ?_
 refine J 6 ?_
 refine .draw [] [1,1,1,1,1,1,1,1,1,1,1,1,1,1,1,1,1,1] rfl (by kernel_rfl) ?_
 refine J 8 ?_
 apply bu.ga 9 22 13 [13,14,15,16,17,18,19,20,21,22] rfl
 ·intro h13
  exact JS 10
 ·intro h13
  exact JS 10
 refine JD 3 (fun h5=>?_) fun h5=>?_
 ·refine J 8 ?_
  rw[AY h5]
  exact JR 0 ()
 ·refine J 6 ?_
  refine .p (.makeFunc rfl rfl) ?_
  refine .c call263 rfl (tG (A:=seps [arr b3 0 (ec r),sl ec 4 vw d.wait]) (p:=fun x=>decide (x.who=r.who)) (Rd.lE (Rd.sl (.there .here))) (by omega) call264 (fun x _=>Lf)) fun _ _=>?_
  refine .fY .auto ?_
  refine JD 3 (fun h23=>?_) fun h23=>?_
  ·refine J 8 ?_
   rw[El h5 h23]
   exact JR 0 ()
  ·refine J 4 ?_
   refine .draw [arr b 0 [vb,vw],arr b3 0 (ec r)] [0,0,0,0,0,1,2,2,1,1,3] rfl (by kernel_rfl) ?_
   refine J 6 ?_
   refine .d2 rfl Kept.auto (af.gQ 170 rfl rfl (by kernel_rfl)) (by rintro _ _ ⟨b36,rfl,rfl⟩;exact Kept.auto) ?_
   rintro _ _ ⟨b36,rfl,rfl⟩
   refine .mem (H':=[arr b36 0 (ec r),arr b3 0 (ec r),sl ec 4 vw d.wait,arr b 0 [vb,vw],sl bF 1 vb d.blocks,F]) (fun w s=>s) ?_
   refine .d2 rfl Kept.auto (af.fi (enc:=ec) (k:=4) r rfl underlying201 underlying201 typeInfo170 rfl rfl rfl (by decide) rfl rfl rfl .auto rfl .auto (by omega) rfl) (by rintro _ _ ⟨v37,rfl,rfl⟩;exact Kept.auto) ?_
   rintro _ _ ⟨v37,rfl,rfl⟩
   refine J 2 ?_
   refine .d3 rfl (af.pz sizeOf201 rfl rfl rfl) ?_
   rintro _ _ ⟨rfl,rfl⟩
   refine J 8 ?_
   rw[Em h5 h23]
   exact JR 0 ()
theorem Dc{W:World}{b:Nat}{d:jC}{k:Int}(hl:d.wait.length≤1000000)(hb:∀ r∈d.wait,0≤r.block∧r.block<(d.blocks.length:Int)):Fn Tryz.prog W 92 [ptr b,.int .i64 k] [nS b d] Unit (fun _=>.tuple #[.agg (ec (d.done k).1).toArray,.int .u64 (d.done k).2.1,.bool (d.done k).2.2.1]) (fun _=>True) (fun _=>[nS b (d.done k).2.2.2]):=by
 refine Fn.intro (N:=66) func92 rfl ntmps92 rfl fun F=>?_
 show ax _ _ _ _ _ _ [nS b d,F]
 refine .o2 (C:=nS b d) .auto rfl ?_
 rintro vb vw -
 refine J 2 ?_
 refine .aw rfl (af.alloc rfl zeroValue170 rfl) ?_
 rintro _ _ ⟨b4,rfl,rfl⟩
 refine JD 19 (fun h18=>?_) fun h18=>?_
 ·refine J 2 ?_
  refine .p (.qO ([(.int .i64 0),(.int .i64 0),(.bool false),(.int .u64 0)]) (by kernel_rfl)) ?_
  refine J 7 ?_
  rw[mA (show d.wait.length=0 by omega)]
  refine .y9 rfl rfl isAgg170 (by exact sizeOf170) Cells.a rfl rfl fun w s=>⟨(),?_,trivial,ar .auto s⟩
  rfl
 ·refine J 4 ?_
  have hpk:pick k d.wait.length<d.wait.length:=fc (by omega)
  have hr0:=getD_some (d:=sd) hpk
  obtain⟨r,hr⟩:∃ r,d.wait.getD (pick k d.wait.length) sd=r:=⟨_,rfl⟩
  rw[hr] at hr0
  have hbr:=hb r (List.mem_of_getElem? hr0)
  refine J 6 ?_
  refine .c call136 rfl (Db (by omega) (by omega)) fun _ _=>?_
  refine J 10 ?_
  refine .p (.ig (pick k d.wait.length) underlying201 sizeOf170 rfl rfl Rd.s rfl hpk) ?_
  refine .p (.la rfl (Cells.rd Rd.s hr0)) ?_
  refine .aw rfl (af.alloc rfl zeroValue170 rfl) ?_
  rintro _ _ ⟨b8,rfl,rfl⟩
  refine J 13 ?_
  refine .c call137 rfl (HU hpk (by omega)) fun u42 _=>?_
  refine J 2 ?_
  refine .aw rfl (af.pz sizeOf201 rfl rfl rfl) ?_
  rintro _ _ ⟨rfl,rfl⟩
  refine JD 9 (fun h46=>?_) fun h46=>?_
  ·refine J 1 ?_
   refine .draw [] [1,1,1,1,1,1,1,1,1,3] rfl (by kernel_rfl) ?_
   refine J 8 ?_
   obtain⟨y,hy⟩:=ay (show r.block.toNat<d.blocks.length by omega)
   refine .p (.ix r.block.toNat rfl rfl (by omega) (by omega)) ?_
   refine .d3 rfl (af.gL (x':=r.x) rfl rfl sizeOf38 rfl hy (by decide) rfl .auto) ?_
   rintro _ _ ⟨rfl,rfl⟩
   refine J 12 ?_
   rw[kU (show ¬d.wait.length=0 by omega) hr h46]
   refine .y9 rfl rfl isAgg170 (by exact sizeOf170) Cells.a rfl rfl fun w s=>⟨(),?_,trivial,ar .auto s⟩
   rfl
  ·refine J 3 ?_
   refine .draw [arr b8 0 (ec r),arr b 0 [vb,u42],sl bF 1 vb d.blocks] [1,0,0,0,0,0,0,0,0,2,1,1] rfl (by kernel_rfl) ?_
   refine J 7 ?_
   have hy:=getD_some (d:=(0:Int)) (show r.block.toNat<d.blocks.length by omega)
   refine .q (.ix r.block.toNat rfl rfl (by omega) (by omega)) ?_
   refine J 1 ?_
   refine .d2 rfl Kept.auto (af.tP (by exact sizeOf170) rfl rfl rfl (by rfl)) (by rintro _ _ ⟨rfl,rfl⟩;exact Kept.auto) ?_
   rintro _ _ ⟨rfl,rfl⟩
   refine J 5 ?_
   rw[mB (show ¬d.wait.length=0 by omega) hr h46]
   refine .y9 rfl rfl isAgg170 (by exact sizeOf170) Cells.a rfl rfl fun w s=>⟨(),?_,trivial,ar .auto s⟩
   rfl
end Go.SLYtefdijgllbkmfaaGreat
namespace Go.SLYtefdijgllbkmfaaGreat
open Go Go.RowKit Go.Proofs
end Go.SLYtefdijgllbkmfaaGreat
namespace Go.Proofs
open Go.Shelf
def Tryz.lays189_ren : Go.Shelf.Ren := ⟨fun | 189 => 138 | 125 => 191 | 257 => 190 | 128 => 233 | 129 => 234 | 294 => 224 | 295 => 225 | 296 => 226 | 297 => 227 | 298 => 228 | 299 => 229 | 216 => 230 | 300 => 231 | 301 => 232 | 328 => 269 | 329 => 270 | 330 => 271 | 331 => 272 | 332 => 273 | 215 => 274 | 343 => 304 | n => n, fun | 28 => 23 | 3 => 3 | 46 => 299 | 0 => 0 | 51 => 343 | 53 => 38 | 4 => 4 | 183 => 337 | 182 => 336 | 131 => 313 | 5 => 5 | 9 => 9 | 218 => 368 | 222 => 371 | 228 => 408 | 229 => 409 | n => n, fun | n => n⟩
theorem Tryz.lays189 : Go.Proofs.Lays.n189 Tryz.prog Tryz.lays189_ren := {
  mixed := by kernel_rfl
  f125 := Tryz.func191.trans (congrArg some (by kernel_rfl))
  f128 := Tryz.func233.trans (congrArg some (by kernel_rfl))
  f129 := Tryz.func234.trans (congrArg some (by kernel_rfl))
  f189 := Tryz.func138.trans (congrArg some (by kernel_rfl))
  f215 := Tryz.func274.trans (congrArg some (by kernel_rfl))
  f216 := Tryz.func230.trans (congrArg some (by kernel_rfl))
  f257 := Tryz.func190.trans (congrArg some (by kernel_rfl))
  f294 := Tryz.func224.trans (congrArg some (by kernel_rfl))
  f295 := Tryz.func225.trans (congrArg some (by kernel_rfl))
  f296 := Tryz.func226.trans (congrArg some (by kernel_rfl))
  f297 := Tryz.func227.trans (congrArg some (by kernel_rfl))
  f298 := Tryz.func228.trans (congrArg some (by kernel_rfl))
  f299 := Tryz.func229.trans (congrArg some (by kernel_rfl))
  f300 := Tryz.func231.trans (congrArg some (by kernel_rfl))
  f301 := Tryz.func232.trans (congrArg some (by kernel_rfl))
  f328 := Tryz.func269.trans (congrArg some (by kernel_rfl))
  f329 := Tryz.func270.trans (congrArg some (by kernel_rfl))
  f330 := Tryz.func271.trans (congrArg some (by kernel_rfl))
  f331 := Tryz.func272.trans (congrArg some (by kernel_rfl))
  f332 := Tryz.func273.trans (congrArg some (by kernel_rfl))
  f343 := Tryz.func304.trans (congrArg some (by kernel_rfl))
  t0 := Tryz.underlying0
  a0 := Tryz.isAgg0
  z0 := Tryz.sizeOf0
  v0 := Tryz.zeroValue0
  t3 := Tryz.underlying3
  a3 := Tryz.isAgg3
  z3 := Tryz.sizeOf3
  v3 := Tryz.zeroValue3
  t4 := Tryz.underlying4
  a4 := Tryz.isAgg4
  z4 := Tryz.sizeOf4
  v4 := Tryz.zeroValue4
  t5 := Tryz.underlying5
  a5 := Tryz.isAgg5
  z5 := Tryz.sizeOf5
  v5 := Tryz.zeroValue5
  t9 := Tryz.underlying9
  a9 := Tryz.isAgg9
  z9 := Tryz.sizeOf9
  v9 := Tryz.zeroValue9
  t28 := Tryz.underlying23
  a28 := Tryz.isAgg23
  z28 := Tryz.sizeOf23
  v28 := Tryz.zeroValue23
  t46 := Tryz.underlying299
  a46 := Tryz.isAgg299
  z46 := Tryz.sizeOf299
  v46 := Tryz.zeroValue299
  t51 := Tryz.underlying343
  a51 := Tryz.isAgg343
  z51 := Tryz.sizeOf343
  v51 := Tryz.zeroValue343
  t53 := Tryz.underlying38
  a53 := Tryz.isAgg38
  z53 := Tryz.sizeOf38
  v53 := Tryz.zeroValue38
  t131 := Tryz.underlying313
  a131 := Tryz.isAgg313
  z131 := Tryz.sizeOf313
  v131 := Tryz.zeroValue313
  t182 := Tryz.underlying336
  a182 := Tryz.isAgg336
  z182 := Tryz.sizeOf336
  v182 := Tryz.zeroValue336
  t183 := Tryz.underlying337
  a183 := Tryz.isAgg337
  z183 := Tryz.sizeOf337
  v183 := Tryz.zeroValue337
  t218 := Tryz.underlying368
  a218 := Tryz.isAgg368
  z218 := Tryz.sizeOf368
  v218 := Tryz.zeroValue368
  t222 := Tryz.underlying371
  a222 := Tryz.isAgg371
  z222 := Tryz.sizeOf371
  v222 := Tryz.zeroValue371
  t228 := Tryz.underlying408
  a228 := Tryz.isAgg408
  z228 := Tryz.sizeOf408
  v228 := Tryz.zeroValue408
  t229 := Tryz.underlying409
  a229 := Tryz.isAgg409
  z229 := Tryz.sizeOf409
  v229 := Tryz.zeroValue409 }
open Go.Sort Go.RowKit in
theorem Tryz.slices_Sort_int (blk off cap : Nat) (zs : List Int) (w : World) (hH : Holds (Value.int .i64) w blk off zs.toArray) (hblk : blk < w.heap.size) (hsz : zs.length < 4611686018427387904) :
    Calls Tryz.prog 138 #[.slice (some ⟨blk, off, none⟩) zs.length cap] w fun e w' =>
      e = .returned (.tuple #[]) ∧ ∃ n os, w' = grow (putRow (Value.int .i64) (Sort.ahead w n) blk off (zs.mergeSort fun x y => decide (x ≤ y)).toArray) os := Any.slices_Sort_int Tryz.lays189 blk off cap zs w hH hblk hsz
open Go.RowKit Go.Sort in
/-- .. and plain. (LAID: no walk: one application.) -/
theorem Tryz.slices_Sort_int_none (p : Option Addr) (cap : Nat) (w : World) :
    Calls Tryz.prog 138 #[.slice p 0 cap] w fun e w' => e = .returned (.tuple #[]) ∧ w' = w := Any.slices_Sort_int_none Tryz.lays189 p cap w

end Go.Proofs
namespace Go.SLYtefdijgllbkmfaaGreat
open Go Go.RowKit Go.Sort Go.Proofs
theorem mq:∀ l:List Int,rows aL l=l.map (Value.int .i64)
 | []=>rfl
 | x::l=>by rw[fL,mq l];rfl
theorem Sat.setCells{W:World}{R:aa}{b:Nat}:∀ (vs:List Value) {off:Nat} {w:World} {pre post:List Value} (cs:List Value),cs.length=vs.length→pre.length=off→Sat W w (sep (arr b 0 (pre++cs++post)) R)→Sat W (w.setCells b off vs) (sep (arr b 0 (pre++vs++post)) R)
 | [],off,w,pre,post,cs,hl,hp,s=>by
  obtain rfl:=List.eq_nil_of_length_eq_zero hl
  exact s
 | v::vs,off,w,pre,post,cs,hl,hp,s=>by
  obtain⟨c,cs,rfl⟩:∃ c r,cs=c::r:=by
   cases cs with
   | nil=>cases hl
   | cons c r=>exact⟨c,r,rfl⟩
  have h1:=Sat.setCell (off:=0) s (i:=off) v (by simp;omega)
  rw[Nat.zero_add] at h1
  have e:(pre++(c::cs)++post).set off v=(pre++[v])++cs++post:=by
   subst hp
   simp
  rw[e] at h1
  have:=Sat.setCells vs (off:=off+1) (pre:=pre++[v]) (post:=post) cs (by simpa using hl) (by simp[hp]) h1
  show Sat W ((w.setCell ⟨b,off,none⟩ v).setCells b (off+1) vs) _
  simpa using this
theorem Lg{W:World}{v:Value}{xs:List Int}(hl:xs.length≤1000000000):Fn Tryz.prog W 138 [v] [sl aL 1 v xs] Unit (fun _=>.tuple #[]) (fun _=>True) (fun _=>[sl aL 1 v (gz xs)]):=fun F w hs=>by
 simp only[seps,aP] at hs ⊢
 rcases hs.qt with ⟨⟨a,rfl⟩,rfl,s⟩ | ⟨b,cap,sp,rfl,hle,hk,hsp,s⟩
 ·refine(Go.Proofs.Tryz.slices_Sort_int_none a 0 w).mono fun e w' ⟨he,hw⟩=>⟨(),he,trivial,?_⟩
  rw[hw];exact hs
 ·have hrow:∀ j,j<xs.length→(rows aL xs++sp)[j]?=some (.int .i64 (xs.getD j 0)):=fun j hj=>by
   rw[mq,List.getElem?_append_left (by simpa using hj),List.getElem?_map,getD_some (d:=0) hj];rfl
  have hH:Holds (Value.int .i64) w b 0 xs.toArray:=fun j hj=>by
   have hj':j<xs.length:=by simpa using hj
   obtain⟨h1,h2⟩:=fu s (hrow j hj')
   refine⟨?_,rm s (i:=j) (List.getElem?_eq_some_iff.1 (hrow j hj')).1⟩
   rw[h2]
   congr 1
   congr 1
   rw[getElem!_pos xs.toArray j hj]
   simp[List.getD_eq_getElem?_getD,hj']
  by_cases hx0:xs=[]
  ·subst hx0
   refine(Go.Proofs.Tryz.slices_Sort_int_none (some ⟨b,0,none⟩) cap w).mono fun e w' ⟨he,hw⟩=>⟨(),he,trivial,?_⟩
   rw[hw];exact hs
  ·have hb:b<w.heap.size:=by
    have hpos:0<xs.length:=by
     rcases Nat.eq_zero_or_pos xs.length with h | h
     ·exact absurd (List.eq_nil_of_length_eq_zero h) hx0
     ·exact h
    exact vk (fu s (hrow 0 hpos)).2
   refine(Go.Proofs.Tryz.slices_Sort_int b 0 cap xs w hH hb (by omega)).mono fun e w' ⟨he,q,os,hw⟩=>⟨(),he,trivial,?_⟩
   rw[hw,Ab,Lib.sorted_world (Value.int .i64) w b 0 q xs.toArray (gz xs) os hH (by rw[kG];simp)]
   have s1:Sat W (w.drewN q) (sep (arr b 0 ([]++rows aL xs++sp)) F):=s.below ⟨rfl,rfl,rfl,Nat.le_refl _,fun _ _=>rfl⟩
   have s2:=Sat.setCells ((gz xs).map (Value.int .i64)) (off:=0) (pre:=[]) (post:=sp) (rows aL xs) (by rw[mq];simp[kG]) rfl s1
   have s3:Sat W (grow ((w.drewN q).setCells b 0 ((gz xs).map (Value.int .i64))) os) (sep (arr b 0 ([]++(gz xs).map (Value.int .i64)++sp)) F):=s2.below ⟨rfl,rfl,rfl,by simp[grow],fun k hk=>by simp[grow,Array.getElem?_append_left hk]⟩
   rw[List.nil_append, ← mq] at s3
   have:=Sat.qq (enc:=aL) (k:=1) (xs:=gz xs) (cap:=cap) (by rw[kG];exact hle) (fun _ _=>rfl) (by rw[kG];exact hsp) s3
   rwa [kG,mq] at this
end Go.SLYtefdijgllbkmfaaGreat
namespace Go.SLYtefdijgllbkmfaaGreat
open Go Go.RowKit Go.Proofs Go.Proofs.Tryz
attribute [local irreducible] ax aQ bu cj bQ Y
theorem yP{W:World}{b:Nat}{w:j6}{who n:Int}(hn:0≤w.now∧w.now≤1099511627776):Fn Tryz.prog W 218 [ptr b,.int .i64 who,.int .i64 n] [m5 b w] Unit (fun _=>.int .i64 (w.sleep who n).1) (fun _=>True) (fun _=>[m5 b (w.sleep who n).2]):=by
 refine Fn.intro (N:=38) func218 rfl ntmps218 rfl fun F=>?_
 show ax _ _ _ _ _ _ [m5 b w,F]
 refine .o1 (C:=m5 b w) .auto rfl ?_
 rintro m -
 refine J 16 ?_
 apply aQ.ga 3 17 14 [14,15,16,17] rfl
 ·intro h14
  exact JS 4
 ·intro h14
  exact JS 4
 refine JD 3 (fun h7=>?_) fun h7=>?_
 ·refine J 8 ?_
  rw[show w.sleep who n=(1,w) from by unfold j6.sleep;rw[if_pos (by simpa using h7)]]
  exact JR 0 ()
 ·refine J 7 ?_
  refine .p (.La underlying204 underlying3 zeroValue3 rfl rfl .auto) ?_
  refine JD 4 (fun h18=>?_) fun h18=>?_
  ·refine J 8 ?_
   rw[show w.sleep who n=(4,w) from by unfold j6.sleep;rw[if_neg (by simpa using h7),if_pos h18]]
   exact JR 0 ()
  ·refine J 4 ?_
   refine .draw [] [1,1,1,1,1,1,1,1,1,1,1,1,3] rfl (by kernel_rfl) ?_
   simp only[Bool.or_eq_false_iff,decide_eq_false_iff_not] at h7
   refine J 10 ?_
   refine .p (.add rfl rfl (by omega)) ?_
   refine .p (.qv rfl rfl) ?_
   refine .d3 rfl (af.mapSet underlying204 underlying3 rfl rfl rfl .auto) ?_
   rintro _ _ ⟨rfl,rfl⟩
   refine J 8 ?_
   rw[show w.sleep who n=(0,{w with dY:=mapSet w.dY who (min (w.now+n) 1099511627776) }) from by unfold j6.sleep;rw[if_neg (by omega),if_neg h18]]
   exact JR 0 ()
theorem Aq{W:World}{b:Nat}{w:j6}(hn:0≤w.now∧w.now≤1099511627776)(hl:w.dY.length≤1000000):Fn Tryz.prog W 96 [ptr b] [m5 b w] Value (fun u=>u) (fun _=>True) (fun u=>[sl aL 1 u w.due,m5 b w.tick.2]):=by
 refine Fn.intro (N:=54) func96 rfl ntmps96 rfl fun F=>?_
 show ax _ _ _ _ _ _ [m5 b w,F]
 refine .o1 (C:=m5 b w) .auto rfl ?_
 rintro m -
 refine J 12 ?_
 refine .jY rfl ?_
 refine J 9 ?_
 refine .p (.add rfl rfl (by omega)) ?_
 refine .p (.qv rfl rfl) ?_
 refine J 17 ?_
 refine .o2 (C:=m4 m w.dY) .auto rfl ?_
 rintro es c ho
 have hel:es.length=w.dY.length:=by have:=congrArg List.length ho.1;simpa using this
 refine .aw rfl (af.J2 rfl underlying204 rfl .auto) ?_
 rintro _ _ ⟨it,rfl,rfl⟩
 refine J 3 ?_
 refine .cM (X:=List MapEntry×Value) [3,4,5,24,25,26,27,28,29,30,31,32,33,34,35,36,37,38] (fun z=>es.length+1-z.1.length) (fun z=>iF es z.1) (fun z=>[(3,some z.2)]) (fun z=>[IH it m c z.1,sl aL 1 z.2 (kH (min (w.now+1) 1099511627776) z.1),iT m (.map es.toArray c),arr b 0 [.int .i64 (min (w.now+1) 1099511627776),.map (some m)],F]) ([],.slice none 0 0) ?_ ?_ ?_ ?_
 ·exact iF.zero es
 ·exact⟨rfl,trivial⟩
 ·exact fun w s=>aK.kept .auto w s
 rintro⟨seen,u⟩ hS
 simp only at hS
 have hSl:=hS.len
 have hdl:=HE (min (w.now+1) 1099511627776) seen
 refine J 2 ?_
 refine .aw rfl (af.eE rfl rfl .auto .auto ho.2.2.1) ?_
 rintro _ _ ⟨o,ho2,rfl,rfl⟩
 refine .p (.extract (vs:=nextA o) rfl (J1 o)) ?_
 refine JD 3 (fun h25=>?_) fun h25=>?_
 ·refine J 5 ?_
  obtain⟨e,rfl⟩:∃ e,o=some e:=Option.isSome_iff_exists.1 h25
  obtain⟨he,hne⟩:=ho2.2 e rfl
  have hkv:=(FD ho).2 e he
  have hS2:=hS.next he hne
  have hS3:=hS2.len
  rw[List.length_append] at hS3
  simp only[List.length_cons,List.length_nil] at hS3
  refine .p (.J3 rfl .auto .auto he ho.2.2.2) ?_
  rw[hkv.1,hkv.2]
  refine JD 16 (fun h34=>?_) fun h34=>?_
  ·refine J 3 ?_
   refine .aw rfl (af.gQ 3 rfl rfl (by kernel_rfl)) ?_
   rintro _ _ ⟨b37,rfl,rfl⟩
   refine .aw rfl (af.fi (enc:=aL) (k:=1) (sW e).1 rfl underlying23 underlying23 typeInfo3 rfl rfl rfl (by decide) rfl rfl rfl .auto rfl .auto (by dsimp only;omega) rfl) ?_
   rintro _ _ ⟨v38,rfl,rfl⟩
   refine J 3 ?_
   refine .bf (seen++[e],v38) .auto rfl ?_ ?_ ?_ ?_
   ·show es.length+1-(seen++[e]).length<es.length+1-seen.length;rw[List.length_append];simp only[List.length_cons,List.length_nil];omega
   ·exact hS2
   ·exact⟨rfl,trivial⟩
   ·show ∀ w,Sat _ w _→Sat _ w (seps [_,sl aL 1 v38 (kH _ (seen++[e])),_,_,F])
    rw[HD h34]
    exact fun w s=>aK.kept .auto w s
  ·refine J 2 ?_
   refine .bf (seen++[e],u) .auto rfl ?_ ?_ ?_ ?_
   ·show es.length+1-(seen++[e]).length<es.length+1-seen.length;rw[List.length_append];simp only[List.length_cons,List.length_nil];omega
   ·exact hS2
   ·exact⟨rfl,trivial⟩
   ·show ∀ w,Sat _ w _→Sat _ w (seps [_,sl aL 1 u (kH _ (seen++[e])),_,_,F])
    rw[J4 h34]
    exact fun w s=>aK.kept .auto w s
 ·have hall:=ho2.1 (by cases o with
   | none=>rfl
   | some e=>cases h25)
  refine J 8 ?_
  refine .to (A:=m4 m w.dY) (Bs:=[iT m (.map es.toArray c)]) .auto (fun h a=>⟨es,c,ho,a⟩) ?_
  refine .c call138 rfl (Lg (xs:=kH (min (w.now+1) 1099511627776) seen) (by omega)) fun _ _=>?_
  rw[BH ho hS hall]
  have hdw:w.due.length≤1000000:=by rw[← BH ho hS hall,kG];omega
  refine J 11 ?_
  refine .cM (X:=Nat) [7,43,44,45,46,47,48,49,50,51,52] (fun k=>w.due.length-k) (fun k=>k≤w.due.length) (fun k=>[(43,some (.int .i64 (k:Int)))]) (fun k=>[m4 m ((w.due.take k).foldl dT w.dY),sl aL 1 u w.due,arr b 0 [.int .i64 (min (w.now+1) 1099511627776),.map (some m)],F]) 0 ?_ ?_ ?_ ?_
  ·exact Nat.zero_le _
  ·exact⟨rfl,trivial⟩
  ·exact fun w s=>aK.kept .auto w s
  rintro k hk
  refine JD 6 (fun h44=>?_) fun h44=>?_
  ·obtain⟨x,hx⟩:=ay (show k<w.due.length by omega)
   refine J 7 ?_
   refine .p (.lr rfl hx) ?_
   refine J 9 ?_
   refine .aw rfl (af.dT underlying204 underlying3 rfl rfl .auto rfl) ?_
   rintro _ _ ⟨rfl,rfl⟩
   refine J 7 ?_
   refine .bf (k+1) .auto rfl ?_ ?_ ?_ ?_
   ·omega
   ·omega
   ·exact⟨rfl,trivial⟩
   ·show ∀ w2,Sat _ w2 _→Sat _ w2 (seps [m4 m ((w.due.take (k+1)).foldl dT w.dY),_,_,F])
    rw[cy hx,List.foldl_append]
    exact fun w s=>aK.kept .auto w s
  ·obtain rfl:k=w.due.length:=by omega
   rw[List.take_length]
   refine J 12 ?_
   show cj W 54 (bodyPost _ _ (fun e w2=>∃ u,e=_∧True∧Sat W w2 (sep (seps [sl aL 1 u w.due,m5 b ⟨min (w.now+1) 1099511627776,w.due.foldl dT w.dY⟩]) F))) _ _ _
   exact JR 0 u
end Go.SLYtefdijgllbkmfaaGreat
namespace Go.SLYtefdijgllbkmfaaGreat
open Go Go.RowKit Go.Proofs Go.Proofs.Tryz
attribute [local irreducible] ax aQ bu cj bQ Y
theorem vf{W:World}{bd b p:Nat}{ps:List (Option Nat)}{d:Dng}{h:Int}(h0:0≤h)(hT:iX d.s.table)(hs:∀ n,bm d.s.table h=some n→bZ ps d.s n):Fn Tryz.prog W 163 [ptr bd,.int .u64 h] [bB bd b p ps d] Unit (fun _=>.tuple #[.int .i64 (((d.other h).1:Nat):Int),.int .i64 (d.other h).2]) (fun _=>True) (fun _=>[bB bd b p ps d]):=by
 refine Fn.intro (N:=60) func163 rfl ntmps163 rfl fun F=>?_
 show ax _ _ _ _ _ _ [bB bd b p ps d,F]
 refine .o2 (C:=bB bd b p ps d) .auto rfl ?_
 rintro vw ve -
 refine .jq (C:=dt b ps d.s) .auto rfl ?_
 rintro fv sv pv bt vm bg vt bk bw vr -
 refine J 16 ?_
 refine .c call202 rfl (u4 hT h0) fun _ _=>?_
 refine J 1 ?_
 refine .p (.extract (v:=.int .i64 (((bm d.s.table h).getD 0:Nat):Int)) rfl rfl) ?_
 refine .p (.extract (v:=.bool (bm d.s.table h).isSome) rfl rfl) ?_
 refine J 8 ?_
 obtain⟨m,hm⟩:∃ m,m=(bm d.s.table h).getD 0:=⟨_,rfl⟩
 rw[← hm]
 refine J 3 ?_
 refine .part (t:=23) rfl (fun h23=>?_) (fun h23=>?_)
 ·refine J 24 ?_
  refine .gK rfl ?_
  refine J 9 ?_
  rw[oy (Option.isNone_iff_eq_none.mp (by simpa using h23))]
  exact JR 0 ()
 ·obtain⟨n,hf⟩:∃ n,bm d.s.table h=some n:=Option.isSome_iff_exists.mp (by simpa using h23)
  obtain rfl:m=n:=by rw[hm,hf];rfl
  obtain⟨hm16,q,u,hq,hu,hR⟩:=hs m hf
  refine .fr .auto (cq hq hu) ?_
  refine J 8 ?_
  refine .lJ (t:=31) rfl (fun h31=>?_) (fun h31=>?_)
  ·refine J 16 ?_
   refine .gK rfl ?_
   refine J 9 ?_
   refine .to (A:=aE ps d.s.thr) (Bs:=[arr q 0 (bz u),aE (ps.set m none) (d.s.thr.set m none)]) .auto (cz hq hu) ?_
   rw[jd hf hu (.inl (Int.ofNat_inj.mp h31))]
   exact JR 0 ()
  ·refine J 7 ?_
   refine .g (.aD m underlying123 sizeOf122 rfl rfl rfl hm16) ?_
   refine .g (.ld rfl (Cell.a (by rw[Nat.mul_one,eQ hm16,eL hq]))) ?_
   refine JD 7 (fun h20=>?_) fun h20=>?_
   ·refine J 9 ?_
    refine .to (A:=aE ps d.s.thr) (Bs:=[arr q 0 (bz u),aE (ps.set m none) (d.s.thr.set m none)]) .auto (cz hq hu) ?_
    rw[jd hf hu (.inr h20)]
    exact JR 0 ()
   ·have hno:¬(m=d.n∨u.bq=true):=fun hh=>hh.elim (fun e=>h31 (Int.ofNat_inj.mpr e)) (fun e=>by rw[h20] at e;cases e)
    refine J 9 ?_
    refine .p (.aD m underlying123 sizeOf122 rfl rfl rfl hm16) ?_
    refine .p (.ld rfl (Cell.a (by rw[Nat.mul_one,eQ hm16,eL hq]))) ?_
    refine JD 7 (fun h45=>?_) fun h45=>?_
    ·refine J 9 ?_
     refine .to (A:=aE ps d.s.thr) (Bs:=[arr q 0 (bz u),aE (ps.set m none) (d.s.thr.set m none)]) .auto (cz hq hu) ?_
     rw[kW hf hu hno h45]
     exact JR 0 ()
    ·refine J 11 ?_
     refine .to (A:=aE ps d.s.thr) (Bs:=[arr q 0 (bz u),aE (ps.set m none) (d.s.thr.set m none)]) .auto (cz hq hu) ?_
     rw[oz hf hu hno (Decidable.byContradiction h45)]
     exact JR 0 ()
theorem Ar{W:World}{bd b p:Nat}{ps:List (Option Nat)}{d:Dng}{t:bo}(hp:ps[d.n]?=some (some p))(ht:d.s.thr[d.n]?=some (some t))(hk:iD ps d t):Fn Tryz.prog W 119 [ptr bd] [bB bd b p ps d] (List (Option Nat)) (fun _=>.tuple #[]) (fun _=>True) (fun qs=>[bB bd b p qs d.cO]):=by
 refine Fn.intro (N:=51) func119 rfl ntmps119 rfl fun F=>?_
 show ax _ _ _ _ _ _ [bB bd b p ps d,F]
 refine J 3 ?_
 refine .c call120 rfl (u7 hp ht hk.I.a) fun _ _=>?_
 have hx0:0≤d.a:=by
  unfold Dng.a;rw[ck ht];exact(hk.R.r _).1
 obtain⟨x,hx⟩:∃ x,x=d.a:=⟨_,rfl⟩
 rw[← hx]
 rw[← hx] at hx0
 refine J 7 ?_
 refine .c call163 rfl (vf hx0 hk.T (hk.slot x)) fun _ _=>?_
 refine J 1 ?_
 refine .p (.extract (v:=.int .i64 (((d.other x).1:Nat):Int)) rfl rfl) ?_
 refine .p (.extract (v:=.int .i64 (d.other x).2) rfl rfl) ?_
 refine JD 13 (fun h24=>?_) fun h24=>?_
 ·refine J 7 ?_
  refine .c call117 rfl (cR hp ht (Nat.le_trans hk.au (by decide)) km hk.R.l) fun _ _=>?_
  refine J 1 ?_
  rw[show d.cO=d.pass x 0 (d.other x).2 from by unfold Dng.cO;rw[← hx];simp only;rw[if_pos h24]]
  exact JR 0 ps
 ·have hz:(d.other x).2=0:=Decidable.byContradiction h24
  obtain⟨m,q,u,hf,ho1,hmn,hm16,hq,hu,hRu,hdt,hjo⟩:=so (hk.slot x) hz
  rw[ho1,hz]
  refine J 2 ?_
  refine .o2 (C:=bB bd b p ps (d)) .auto rfl ?_
  rintro vw ve -
  refine .jq (C:=dt b ps (d).s) .auto rfl ?_
  rintro fv sv pv bt vm bg vt bk bw vr -
  refine .fr .auto (cq hq hu) ?_
  refine J 7 ?_
  refine .p (.aD m underlying123 sizeOf122 rfl rfl rfl hm16) ?_
  refine .p (.ld rfl (Cell.a (by rw[Nat.mul_one,eQ hm16,eL hq]))) ?_
  refine JD 7 (fun h27=>?_) fun h27=>?_
  ·refine J 1 ?_
   refine .to (A:=aE ps d.s.thr) (Bs:=[arr q 0 (bz u),aE (ps.set m none) (d.s.thr.set m none)]) .auto (cz hq hu) ?_
   refine J 5 ?_
   refine .c call113 rfl (mN (s:=d.s) hq hu hk.lt hk.lp hk.T hRu.h.1) fun _ _=>?_
   refine J 7 ?_
   refine .c call117 rfl (cR (d:=d.free m) (ps:=ps.set m none) (p:=p) (t:=t) (by show(ps.set m none)[d.n]?=_;rw[List.getElem?_set_ne hmn];exact hp) (by show(d.s.thr.set m none)[d.n]?=_;rw[List.getElem?_set_ne hmn];exact ht) (Nat.le_trans hk.au (by decide)) (by decide) hk.R.l) fun _ _=>?_
   refine J 1 ?_
   rw[show d.cO=(d.free m).pass x 0 0 from by unfold Dng.cO;rw[← hx];simp only;rw[if_neg (by rw[hz];simp),ho1,cW hu,if_pos h27]]
   refine .Dy rfl fun w s=>⟨ps.set m none,?_,trivial,ar .auto s⟩
   rfl
  ·refine J 8 ?_
   refine .p (.aD m underlying123 sizeOf122 rfl rfl rfl hm16) ?_
   refine .p (.ld rfl (Cell.a (by rw[Nat.mul_one,eQ hm16,eL hq]))) ?_
   refine J 3 ?_
   rw[GN]
   refine J 7 ?_
   refine .to (A:=aE ps (d.s.thr.set m (some ({u with bq:=true })))) (Bs:=[arr q 0 (bz ({u with bq:=true })),aE (ps.set m none) (d.s.thr.set m none)]) .auto (cY (List.getElem?_eq_some_iff.1 hu).1 hq) ?_
   refine .c call117 rfl (cR (d:={d with s:=d.s.aj m {u with bq:=true } }) (ps:=ps) (p:=p) (t:=t) hp (cr ht hmn) (Nat.le_trans hk.au (by decide)) (by decide) hk.R.l) fun _ _=>?_
   refine J 1 ?_
   rw[show d.cO=({d with s:=d.s.aj m {u with bq:=true } }:Dng).pass x 0 0 from by unfold Dng.cO;rw[← hx];simp only;rw[if_neg (by rw[hz];simp),ho1,cW hu,if_neg h27]]
   exact JR 0 ps
theorem F8{W:World}{bd b p:Nat}{ps:List (Option Nat)}{d:Dng}{t:bo}(hp:ps[d.n]?=some (some p))(ht:d.s.thr[d.n]?=some (some t))(hk:iD ps d t):Fn Tryz.prog W 118 [ptr bd] [bB bd b p ps d] (List (Option Nat)) (fun _=>.tuple #[]) (fun _=>True) (fun qs=>[bB bd b p qs d.join]):=by
 refine Fn.intro (N:=94) func118 rfl ntmps118 rfl fun F=>?_
 show ax _ _ _ _ _ _ [bB bd b p ps d,F]
 have hIa:=hk.I.a
 have hRl:=hk.R.l
 refine J 3 ?_
 refine .c call162 rfl (II hp ht hk.I.b) fun _ _=>?_
 have hx0:0≤d.b:=by
  unfold Dng.b;rw[ck ht];exact(hk.R.r _).1
 obtain⟨x,hx⟩:∃ x,x=d.b:=⟨_,rfl⟩
 rw[← hx]
 rw[← hx] at hx0
 refine J 7 ?_
 refine .c call163 rfl (vf hx0 hk.T (hk.slot x)) fun _ _=>?_
 refine J 1 ?_
 refine .p (.extract (v:=.int .i64 (((d.other x).1:Nat):Int)) rfl rfl) ?_
 refine .p (.extract (v:=.int .i64 (d.other x).2) rfl rfl) ?_
 refine JD 12 (fun h37=>?_) fun h37=>?_
 ·refine J 4 ?_
  refine .c call117 rfl (cR hp ht (Nat.le_trans hk.au (by decide)) km hk.R.l) fun _ _=>?_
  refine J 2 ?_
  rw[show d.join=d.pass x 0 (d.other x).2 from by unfold Dng.join;rw[← hx];simp only;rw[if_pos h37]]
  exact JR 0 ps
 ·have hz:(d.other x).2=0:=Decidable.byContradiction h37
  obtain⟨m,q,u,hf,ho1,hmn,hm16,hq,hu,hRu,hdt,hjo⟩:=so (hk.slot x) hz
  rw[ho1,hz]
  refine J 2 ?_
  refine .o2 (C:=bB bd b p ps (d)) .auto rfl ?_
  rintro vw ve -
  refine .jq (C:=dt b ps (d).s) .auto rfl ?_
  rintro fv sv pv bt vm bg vt bk bw vr -
  refine .fr .auto (cq hq hu) ?_
  refine J 7 ?_
  refine .p (.aD m underlying123 sizeOf122 rfl rfl rfl hm16) ?_
  refine .p (.ld rfl (Cell.a (by rw[Nat.mul_one,eQ hm16,eL hq]))) ?_
  refine JD 7 (fun h44=>?_) fun h44=>?_
  ·refine J 9 ?_
   refine .p (.aD m underlying123 sizeOf122 rfl rfl rfl hm16) ?_
   refine .p (.ld rfl (Cell.a (by rw[Nat.mul_one,eQ hm16,eL hq]))) ?_
   refine J 7 ?_
   refine .to (A:=aE ps d.s.thr) (Bs:=[arr q 0 (bz u),aE (ps.set m none) (d.s.thr.set m none)]) .auto (cz hq hu) ?_
   refine .fr .auto (cq hp ht) ?_
   refine .draw [arr bd 0 (eA b p d vw ve)] [1,1,1,1,1,1,1,1,1,1,1,1,1,1,3] rfl (by kernel_rfl) ?_
   refine J 13 ?_
   refine .p (.aD d.i.a.toNat underlying39 sizeOf38 rfl rfl (by omega) (by omega)) ?_
   refine .d3 rfl (af.st sizeOf38 rfl rfl rfl (Nat.blt_eq.mpr (by show 2+d.i.a.toNat * 1<18;omega))) ?_
   rintro _ _ ⟨rfl,rfl⟩
   rw[jc _ (by omega) (by omega) hRl]
   refine .to (A:=aE ps (d.s.thr.set d.n (some (t.put d.i.a u.value)))) (Bs:=[arr p 0 (bz (t.put d.i.a u.value)),aE (ps.set d.n none) (d.s.thr.set d.n none)]) .auto (cY (List.getElem?_eq_some_iff.1 ht).1 hp) ?_
   refine J 9 ?_
   refine .c call113 rfl (mN (s:=(d.aj (t.put d.i.a u.value)).s) hq (cr hu (Ne.symm hmn)) (by simp[Dng.aj,Spc.aj,hk.lt]) hk.lp hk.T hRu.h.1) fun _ _=>?_
   refine J 6 ?_
   refine .c call117 rfl (cR (d:=(d.aj (t.put d.i.a u.value)).free m) (ps:=ps.set m none) (p:=p) (t:=t.put d.i.a u.value) (by show(ps.set m none)[d.n]?=_;rw[List.getElem?_set_ne hmn];exact hp) (by show((d.aj (t.put d.i.a u.value)).s.thr.set m none)[d.n]?=_;rw[List.getElem?_set_ne hmn];exact bW ht) (Nat.le_trans hk.au (by decide)) (by decide) (by rw[jF];exact hRl)) fun _ _=>?_
   refine J 2 ?_
   rw[show d.join=((d.aj (t.put d.i.a u.value)).free m).pass x u.value 0 from by unfold Dng.join;rw[← hx];simp only;rw[if_neg (by rw[hz];simp),ho1,cW hu,if_pos h44,ck ht]]
   refine .Dy rfl fun w s=>⟨ps.set m none,?_,trivial,ar .auto s⟩
   rfl
  ·refine J 1 ?_
   refine .draw [arr bd 0 (eA b p d vw ve)] [1,1,1,1,1,1,1,1,1,1,1,1,1,1,1,3] rfl (by kernel_rfl) ?_
   refine J 7 ?_
   refine .p (.aD m underlying123 sizeOf122 rfl rfl rfl hm16) ?_
   refine .p (.ld rfl (Cell.a (by rw[Nat.mul_one,eQ hm16,eL hq]))) ?_
   refine J 7 ?_
   rw[zy]
   refine .to (A:=aE ps (d.s.thr.set m (some ({u with av:=d.n })))) (Bs:=[arr q 0 (bz ({u with av:=d.n })),aE (ps.set m none) (d.s.thr.set m none)]) .auto (cY (List.getElem?_eq_some_iff.1 hu).1 hq) ?_
   refine J 10 ?_
   refine .c call164 rfl (gF (d:={d with s:=d.s.aj m {u with av:=d.n } }) (ps:=ps) (p:=p) (t:=t) hp (cr ht hmn) (Nat.le_trans hk.au (by decide))) fun _ _=>?_
   refine J 2 ?_
   rw[show d.join=({d with s:=d.s.aj m {u with av:=d.n } }:Dng).block 4 d.i.a x 0 from by unfold Dng.join;rw[← hx];simp only;rw[if_neg (by rw[hz];simp),ho1,cW hu,if_neg h44]]
   exact JR 0 ps
theorem Dd{W:World}{bd b p:Nat}{ps:List (Option Nat)}{d:Dng}{t:bo}(hp:ps[d.n]?=some (some p))(ht:d.s.thr[d.n]?=some (some t))(hk:iD ps d t):Fn Tryz.prog W 178 [ptr bd] [bB bd b p ps d] Unit (fun _=>.tuple #[]) (fun _=>True) (fun _=>[bB bd b p ps (d.sleep)]):=by
 refine Fn.intro (N:=34) func178 rfl ntmps178 rfl fun F=>?_
 show ax _ _ _ _ _ _ [bB bd b p ps d,F]
 refine J 3 ?_
 refine .c call120 rfl (u7 hp ht hk.I.a) fun _ _=>?_
 have hx0:0≤d.a:=by
  unfold Dng.a;rw[ck ht];exact(hk.R.r _).1
 obtain⟨x,hx⟩:∃ x,x=d.a:=⟨_,rfl⟩
 rw[← hx]
 rw[← hx] at hx0
 refine JD 11 (fun h22=>?_) fun h22=>?_
 ·refine J 3 ?_
  refine .c call117 rfl (cR hp ht (Nat.le_trans hk.au (by decide)) (by decide) hk.R.l) fun _ _=>?_
  refine J 2 ?_
  rw[show d.sleep=d.pass x 0 0 from by unfold Dng.sleep;rw[← hx];simp only;rw[if_pos h22]]
  exact JR 0 ()
 ·refine JD 7 (fun h28=>?_) fun h28=>?_
  ·refine J 3 ?_
   refine .c call117 rfl (cR hp ht (Nat.le_trans hk.au (by decide)) (by decide) hk.R.l) fun _ _=>?_
   refine J 2 ?_
   rw[show d.sleep=d.pass x 0 1 from by unfold Dng.sleep;rw[← hx];simp only;rw[if_neg h22,if_pos h28]]
   exact JR 0 ()
  ·refine J 1 ?_
   refine .o2 (C:=bB bd b p ps (d)) .auto rfl ?_
   rintro vw ve -
   refine .jq (C:=dt b ps (d).s) .auto rfl ?_
   rintro fv sv pv bt vm bg vt bk bw vr -
   refine .draw [arr bd 0 (eA b p d vw ve),arr b 0 (fM fv sv pv d.s.dK bt ps vm bg vt bk bw vr)] [1,1,1,1,1,1,1,1,1,1,1,1,1,3] rfl (by kernel_rfl) ?_
   refine J 12 ?_
   refine .p (.gy underlying38 underlying3 rfl (by omega)) ?_
   refine .c call218 rfl (yP hk.wn) fun _ _=>?_
   refine J 5 ?_
   refine .c call164 rfl (gF (d:=d.rW (d.s.aA.sleep d.n x).2) hp ht (Nat.le_trans hk.au (by decide))) fun _ _=>?_
   refine J 2 ?_
   rw[show d.sleep=(d.rW (d.s.aA.sleep d.n x).2).block 8 (-1) x 0 from by unfold Dng.sleep;rw[← hx];simp only;rw[if_neg h22,if_neg h28]]
   exact JR 0 ()
theorem BM{W:World}{bd b p:Nat}{ps:List (Option Nat)}{d:Dng}{t:bo}(hp:ps[d.n]?=some (some p))(ht:d.s.thr[d.n]?=some (some t))(hk:iD ps d t){block y into:Int}(hb:0≤block):Fn Tryz.prog W 175 [ptr bd,.int .u64 block,.int .u64 y,.int .i64 into] [bB bd b p ps d] Unit (fun _=>.tuple #[]) (fun _=>True) (fun _=>[bB bd b p ps (d.ask block y into)]):=by
 refine Fn.intro (N:=45) func175 rfl ntmps175 rfl fun F=>?_
 show ax _ _ _ _ _ _ [bB bd b p ps d,F]
 refine JD 12 (fun h10=>?_) fun h10=>?_
 ·refine .o2 (C:=bB bd b p ps (d)) .auto rfl ?_
  rintro vw ve -
  refine .jq (C:=dt b ps (d).s) .auto rfl ?_
  rintro fv sv pv bt vm bg vt bk bw vr -
  refine .draw [arr bd 0 (eA b p d vw ve),arr b 0 (fM fv sv pv d.s.dK bt ps vm bg vt bk bw vr)] [1,1,1,1,1,1,1,1,1,1,1,1,1,1,1,1,1,1,1,1,1,3,1] rfl (by kernel_rfl) ?_
  refine J 12 ?_
  refine .p (.gy underlying38 underlying3 rfl (by omega)) ?_
  refine J 7 ?_
  refine .p (.BS (fun v1 v2 v3 v4=>[v1,v2,v3,v4]) rfl rfl rfl rfl (by kernel_rfl)) ?_
  refine .c call215 rfl (F7 (r:=(⟨d.n,block,decide (d.i.op=34),y⟩:pE)) hk.dw) fun _ _=>?_
  refine JD 10 (fun h34=>?_) fun h34=>?_
  ·refine J 6 ?_
   refine .c call117 rfl (cR (d:=d.dC (d.s.aO.ask ⟨d.n,block,decide (d.i.op=34),y⟩).2) hp ht (Nat.le_trans hk.au (by decide)) Et hk.R.l) fun _ _=>?_
   refine J 4 ?_
   rw[show d.ask block y into=(d.dC (d.s.aO.ask ⟨d.n,block,decide (d.i.op=34),y⟩).2).pass block y (d.s.aO.ask ⟨d.n,block,decide (d.i.op=34),y⟩).1 from by unfold Dng.ask;rw[if_pos h10];simp only;rw[if_pos h34]]
   exact JR 0 ()
  ·refine J 7 ?_
   refine .c call164 rfl (gF (d:=d.dC (d.s.aO.ask ⟨d.n,block,decide (d.i.op=34),y⟩).2) hp ht (Nat.le_trans hk.au (by decide))) fun _ _=>?_
   refine J 1 ?_
   rw[show d.ask block y into=(d.dC (d.s.aO.ask ⟨d.n,block,decide (d.i.op=34),y⟩).2).block 5 into block y from by unfold Dng.ask;rw[if_pos h10];simp only;rw[if_neg h34]]
   exact JR 0 ()
 ·refine J 9 ?_
  refine .gK rfl ?_
  refine J 6 ?_
  refine .c call117 rfl (cR hp ht (Nat.le_trans hk.au (by decide)) (by decide) hk.R.l) fun _ _=>?_
  refine J 4 ?_
  rw[show d.ask block y into=d.pass block y 1 from by unfold Dng.ask;rw[if_neg h10]]
  exact JR 0 ()
end Go.SLYtefdijgllbkmfaaGreat
namespace Go.SLYtefdijgllbkmfaaGreat
open Go Go.RowKit Go.Proofs Go.Proofs.Tryz
attribute [local irreducible] ax aQ bu cj bQ Y
theorem Kd{W:World}{bd b p:Nat}{d:Dng}{t:bo}{vw ve:Value}(ht:d.s.thr[d.n]?=some (some t))(hI:0≤d.i.a∧d.i.a<8):Fn Tryz.prog W 120 [ptr bd] [arr bd 0 (eA b p d vw ve),arr p 0 (bz t)] Unit (fun _=>.int .u64 d.a) (fun _=>True) (fun _=>[arr bd 0 (eA b p d vw ve),arr p 0 (bz t)]):=by
 refine Fn.intro (N:=17) func120 rfl ntmps120 rfl fun F=>?_
 show ax _ _ _ _ _ _ [arr bd 0 (eA b p d vw ve),arr p 0 (bz t),F]
 refine J 6 ?_
 refine .draw [] [1,1,1,1,1,1,1,1,1,1,1,1,1,1,1] rfl (by kernel_rfl) ?_
 refine J 12 ?_
 refine .p (.aD d.i.a.toNat underlying39 sizeOf38 rfl rfl (by omega) (by omega)) ?_
 refine .p (.ld rfl (Cell.a (mC (by omega)))) ?_
 refine J 4 ?_
 refine .aC rfl rfl fun w s=>⟨(),?_,trivial,ar .auto s⟩
 rw[show d.a=t.aq.getD d.i.a.toNat 0 from by unfold Dng.a;rw[ck ht];rfl]
theorem F9{W:World}{bd b p:Nat}{d:Dng}{t:bo}{vw ve:Value}(ht:d.s.thr[d.n]?=some (some t))(hI:0≤d.i.b∧d.i.b<8):Fn Tryz.prog W 162 [ptr bd] [arr bd 0 (eA b p d vw ve),arr p 0 (bz t)] Unit (fun _=>.int .u64 d.b) (fun _=>True) (fun _=>[arr bd 0 (eA b p d vw ve),arr p 0 (bz t)]):=by
 refine Fn.intro (N:=17) func162 rfl ntmps162 rfl fun F=>?_
 show ax _ _ _ _ _ _ [arr bd 0 (eA b p d vw ve),arr p 0 (bz t),F]
 refine J 6 ?_
 refine .draw [] [1,1,1,1,1,1,1,1,1,1,1,1,1,1,1] rfl (by kernel_rfl) ?_
 refine J 12 ?_
 refine .p (.aD d.i.b.toNat underlying39 sizeOf38 rfl rfl (by omega) (by omega)) ?_
 refine .p (.ld rfl (Cell.a (mC (by omega)))) ?_
 refine J 4 ?_
 refine .aC rfl rfl fun w s=>⟨(),?_,trivial,ar .auto s⟩
 rw[show d.b=t.aq.getD d.i.b.toNat 0 from by unfold Dng.b;rw[ck ht];rfl]
theorem BN{W:World}{bd b p:Nat}{ps:List (Option Nat)}{d:Dng}{t:bo}(hp:ps[d.n]?=some (some p))(ht:d.s.thr[d.n]?=some (some t))(hk:iD ps d t):Fn Tryz.prog W 124 [ptr bd] [bB bd b p ps d] Unit (fun _=>.tuple #[]) (fun _=>True) (fun _=>[bB bd b p ps (d.cf)]):=by
 refine Fn.intro (N:=86) func124 rfl ntmps124 rfl fun F=>?_
 show ax _ _ _ _ _ _ [bB bd b p ps d,F]
 refine .o2 (C:=bB bd b p ps (d)) .auto rfl ?_
 rintro vw ve -
 refine .jq (C:=dt b ps (d).s) .auto rfl ?_
 rintro fv sv pv bt vm bg vt bk bw vr -
 have hnn:=hk.nn
 have hn0:=hk.I.n
 refine J 7 ?_
 refine .p (.gy underlying38 underlying3 rfl (by omega)) ?_
 refine JD 14 (fun h19=>?_) fun h19=>?_
 ·refine J 1 ?_
  refine .draw [arr bd 0 (eA b p d vw ve),arr b 0 (fM fv sv pv d.s.dK bt ps vm bg vt bk bw vr)] [1,1,1,1,1,1,1,1,1,1,1,1,3,1,1,1,1,1,1,1] rfl (by kernel_rfl) ?_
  refine J 12 ?_
  refine .c call173 rfl (H6 hk.gl hk.GQ) fun _ _=>?_
  refine J 1 ?_
  refine .p (.extract (v:=.int .i64 (d.s.ag.up d.i.n d.choice).1) rfl rfl) ?_
  refine .p (.extract (v:=.bool (d.s.ag.up d.i.n d.choice).2.1) rfl rfl) ?_
  refine .p (.extract (v:=.int .i64 (d.s.ag.up d.i.n d.choice).2.2.1) rfl rfl) ?_
  refine J 14 ?_
  refine .c call117 rfl (cR (d:=d.aZ (d.s.ag.up d.i.n d.choice).2.2.2) hp ht (Nat.le_trans hk.au (by decide)) Eu hk.R.l) fun _ _=>?_
  refine J 7 ?_
  refine .c call167 rfl (qh (n:=(d.s.ag.up d.i.n d.choice).1) (ok:=(d.s.ag.up d.i.n d.choice).2.1) (d:=((d.aZ (d.s.ag.up d.i.n d.choice).2.2.2).pass d.i.n 0 (d.s.ag.up d.i.n d.choice).2.2.1)) (fun h=>⟨(hk.iH _ (Ew h)).1,((hk.iH _ (Ew h)).2.of (s':=(d.aZ (d.s.ag.up d.i.n d.choice).2.2.2).s) rfl).pass (d:=d.aZ (d.s.ag.up d.i.n d.choice).2.2.2) ht hk.R Eu⟩) (Nat.le_trans hk.ends (by decide)) (Nat.le_trans hk.GP (by decide))) fun _ _=>?_
  refine J 4 ?_
  rw[show d.cf=((d.aZ (d.s.ag.up d.i.n d.choice).2.2.2).pass d.i.n 0 (d.s.ag.up d.i.n d.choice).2.2.1).given (d.s.ag.up d.i.n d.choice).1 (d.s.ag.up d.i.n d.choice).2.1 from by unfold Dng.cf;rw[if_pos h19]]
  exact JR 0 ()
 ·refine J 3 ?_
  refine .draw [arr bd 0 (eA b p d vw ve),arr b 0 (fM fv sv pv d.s.dK bt ps vm bg vt bk bw vr)] [1,1,1,1,1,1,1,1,1,1,1,1,3,1,1,1,1,1] rfl (by kernel_rfl) ?_
  refine J 12 ?_
  refine .c call174 rfl (C9 hk.gl hk.GQ) fun _ _=>?_
  refine J 1 ?_
  refine .p (.extract (v:=.bool (d.s.ag.down d.n d.i.n).1) rfl rfl) ?_
  refine .p (.extract (v:=.int .i64 (d.s.ag.down d.n d.i.n).2.1) rfl rfl) ?_
  refine J 10 ?_
  apply aQ.fZ 3 70 67 [67,68,69,70] rfl
  ·intro h67
   exact JS 4
  ·intro h67
   exact JS 4
  refine JD 2 (fun h70=>?_) fun h70=>?_
  ·simp only[Bool.and_eq_true,decide_eq_true_eq,Bool.not_eq_true'] at h70
   refine J 8 ?_
   refine .c call164 rfl (gF (d:=d.aZ (d.s.ag.down d.n d.i.n).2.2) hp ht (Nat.le_trans hk.au (by decide))) fun _ _=>?_
   refine J 4 ?_
   rw[show d.cf=(d.aZ (d.s.ag.down d.n d.i.n).2.2).block 3 (-1) d.i.n 0 from by unfold Dng.cf;rw[if_neg h19];simp only;rw[if_pos h70]]
   exact JR 0 ()
  ·simp only[Bool.and_eq_false_iff,decide_eq_false_iff_not,Bool.not_eq_false'] at h70
   refine J 10 ?_
   refine .c call117 rfl (cR (d:=d.aZ (d.s.ag.down d.n d.i.n).2.2) hp ht (Nat.le_trans hk.au (by decide)) A2 hk.R.l) fun _ _=>?_
   refine J 1 ?_
   rw[show d.cf=(d.aZ (d.s.ag.down d.n d.i.n).2.2).pass d.i.n 0 (d.s.ag.down d.n d.i.n).2.1 from by unfold Dng.cf;rw[if_neg h19];simp only;rw[if_neg (by rintro⟨a,b⟩;rcases h70 with h | h;exact h a;rw[b] at h;cases h)]]
   exact JR 0 ()
theorem qi{W:World}{bd b p:Nat}{ps:List (Option Nat)}{d:Dng}{t:bo}(hp:ps[d.n]?=some (some p))(ht:d.s.thr[d.n]?=some (some t))(hk:iD ps d t):Fn Tryz.prog W 121 [ptr bd] [bB bd b p ps d] Unit (fun _=>.tuple #[]) (fun _=>True) (fun _=>[bB bd b p ps (d.mutex)]):=by
 refine Fn.intro (N:=155) func121 rfl ntmps121 rfl fun F=>?_
 show ax _ _ _ _ _ _ [bB bd b p ps d,F]
 refine .o2 (C:=bB bd b p ps (d)) .auto rfl ?_
 rintro vw ve -
 refine .jq (C:=dt b ps (d).s) .auto rfl ?_
 rintro fv sv pv bt vm bg vt bk bw vr -
 have hnn:=hk.nn
 have hn0:=hk.I.n
 have hIc:=hk.I.c
 have hwc:=Je hIc
 refine J 7 ?_
 refine .p (.gy underlying38 underlying3 rfl (by omega)) ?_
 refine JD 19 (fun h81=>?_) fun h81=>?_
 ·refine J 1 ?_
  refine .draw [arr bd 0 (eA b p d vw ve),arr b 0 (fM fv sv pv d.s.dK bt ps vm bg vt bk bw vr)] [1,1,1,1,1,1,1,1,1,1,1,1,3,1,1,1,1,1] rfl (by kernel_rfl) ?_
  refine J 12 ?_
  refine .c call165 rfl (C7 hk.gl) fun _ _=>?_
  refine J 1 ?_
  refine .p (.extract (v:=.bool (d.s.ag.lock d.n d.i.n).1) rfl rfl) ?_
  refine .p (.extract (v:=.int .i64 (d.s.ag.lock d.n d.i.n).2.1) rfl rfl) ?_
  refine J 10 ?_
  apply aQ.fZ 3 104 101 [101,102,103,104] rfl
  ·intro h101
   exact JS 4
  ·intro h101
   exact JS 4
  refine JD 2 (fun h104=>?_) fun h104=>?_
  ·simp only[Bool.and_eq_true,decide_eq_true_eq,Bool.not_eq_true'] at h104
   refine J 8 ?_
   refine .c call164 rfl (gF (d:=d.aZ (d.s.ag.lock d.n d.i.n).2.2) hp ht (Nat.le_trans hk.au (by decide))) fun _ _=>?_
   refine J 5 ?_
   rw[show d.mutex=(d.aZ (d.s.ag.lock d.n d.i.n).2.2).block 1 (-1) d.i.n 0 from by unfold Dng.mutex;simp only;rw[if_pos h81,if_pos h104]]
   exact JR 0 ()
  ·simp only[Bool.and_eq_false_iff,decide_eq_false_iff_not,Bool.not_eq_false'] at h104
   refine J 10 ?_
   refine .c call117 rfl (cR (d:=d.aZ (d.s.ag.lock d.n d.i.n).2.2) hp ht (Nat.le_trans hk.au (by decide)) A0 hk.R.l) fun _ _=>?_
   refine J 2 ?_
   rw[show d.mutex=(d.aZ (d.s.ag.lock d.n d.i.n).2.2).pass d.i.n 0 (d.s.ag.lock d.n d.i.n).2.1 from by unfold Dng.mutex;simp only;rw[if_pos h81,if_neg (by rintro⟨a,b⟩;rcases h104 with h | h;exact h a;rw[b] at h;cases h)]]
   exact JR 0 ()
 ·refine JD 6 (fun h120=>?_) fun h120=>?_
  ·refine J 1 ?_
   refine .draw [arr bd 0 (eA b p d vw ve),arr b 0 (fM fv sv pv d.s.dK bt ps vm bg vt bk bw vr)] [1,1,1,1,1,1,1,1,1,1,1,1,1,1,1,1,3,1,1,1,1,1,1,1] rfl (by kernel_rfl) ?_
   refine J 16 ?_
   refine .c call166 rfl (yO hk.gl) fun _ _=>?_
   refine J 1 ?_
   refine .p (.extract (v:=.int .i64 (d.s.ag.unlock d.n d.i.n d.choice).1) rfl rfl) ?_
   refine .p (.extract (v:=.bool (d.s.ag.unlock d.n d.i.n d.choice).2.1) rfl rfl) ?_
   refine .p (.extract (v:=.int .i64 (d.s.ag.unlock d.n d.i.n d.choice).2.2.1) rfl rfl) ?_
   refine J 14 ?_
   refine .c call117 rfl (cR (d:=d.aZ (d.s.ag.unlock d.n d.i.n d.choice).2.2.2) hp ht (Nat.le_trans hk.au (by decide)) pN hk.R.l) fun _ _=>?_
   refine J 6 ?_
   refine .c call167 rfl (qh (n:=(d.s.ag.unlock d.n d.i.n d.choice).1) (ok:=(d.s.ag.unlock d.n d.i.n d.choice).2.1) (d:=((d.aZ (d.s.ag.unlock d.n d.i.n d.choice).2.2.2).pass d.i.n 0 (d.s.ag.unlock d.n d.i.n d.choice).2.2.1)) (fun h=>⟨(hk.iH _ (sq h)).1,((hk.iH _ (sq h)).2.of (s':=(d.aZ (d.s.ag.unlock d.n d.i.n d.choice).2.2.2).s) rfl).pass (d:=d.aZ (d.s.ag.unlock d.n d.i.n d.choice).2.2.2) ht hk.R pN⟩) (Nat.le_trans hk.ends (by decide)) (Nat.le_trans hk.GP (by decide))) fun _ _=>?_
   refine J 2 ?_
   rw[show d.mutex=((d.aZ (d.s.ag.unlock d.n d.i.n d.choice).2.2.2).pass d.i.n 0 (d.s.ag.unlock d.n d.i.n d.choice).2.2.1).given (d.s.ag.unlock d.n d.i.n d.choice).1 (d.s.ag.unlock d.n d.i.n d.choice).2.1 from by unfold Dng.mutex;simp only;rw[if_neg h81,if_pos h120]]
   exact JR 0 ()
  ·refine J 1 ?_
   refine .draw [arr bd 0 (eA b p d vw ve),arr b 0 (fM fv sv pv d.s.dK bt ps vm bg vt bk bw vr)] [1,1,1,1,1,1,1,1,1,1,1,1,1,1,1,1,1,1,1,1,1,3,1,1,1,1,1,1,1] rfl (by kernel_rfl) ?_
   refine J 21 ?_
   refine .c call168 rfl (C8 hk.gl) fun _ _=>?_
   refine J 1 ?_
   refine .p (.extract (v:=.int .i64 (d.s.ag.wait d.n d.i.n d.i.c d.choice).1) rfl rfl) ?_
   refine .p (.extract (v:=.bool (d.s.ag.wait d.n d.i.n d.i.c d.choice).2.1) rfl rfl) ?_
   refine .p (.extract (v:=.int .i64 (d.s.ag.wait d.n d.i.n d.i.c d.choice).2.2.1) rfl rfl) ?_
   refine JD 12 (fun h48=>?_) fun h48=>?_
   ·refine J 1 ?_
    refine .draw [] [1,1,1,1,1,1,1,1,1,1,1,1,1,3] rfl (by kernel_rfl) ?_
    refine J 11 ?_
    refine .p (.gh underlying3 underlying38 rfl (by omega)) ?_
    refine J 1 ?_
    refine .c call117 rfl (cR (d:=d.aZ (d.s.ag.wait d.n d.i.n d.i.c d.choice).2.2.2) hp ht (Nat.le_trans hk.au (by decide)) A1 hk.R.l) fun _ _=>?_
    refine J 5 ?_
    rw[show d.mutex=(d.aZ (d.s.ag.wait d.n d.i.n d.i.c d.choice).2.2.2).pass d.i.n d.i.c (d.s.ag.wait d.n d.i.n d.i.c d.choice).2.2.1 from by unfold Dng.mutex;simp only;rw[if_neg h81,if_neg h120,if_pos h48,hwc]]
    exact JR 0 ()
   ·refine J 3 ?_
    refine .draw [] [1,1,1,1,1,1,1,1,1,1,1,1,3] rfl (by kernel_rfl) ?_
    refine J 11 ?_
    refine .p (.gh underlying3 underlying38 rfl (by omega)) ?_
    refine .c call164 rfl (gF (d:=d.aZ (d.s.ag.wait d.n d.i.n d.i.c d.choice).2.2.2) hp ht (Nat.le_trans hk.au (by decide))) fun _ _=>?_
    refine J 6 ?_
    refine .c call167 rfl (qh (n:=(d.s.ag.wait d.n d.i.n d.i.c d.choice).1) (ok:=(d.s.ag.wait d.n d.i.n d.i.c d.choice).2.1) (d:=((d.aZ (d.s.ag.wait d.n d.i.n d.i.c d.choice).2.2.2).block 2 (-1) d.i.n d.i.c)) (fun h=>⟨(hk.iH _ (xI h)).1,((hk.iH _ (xI h)).2.of (s':=(d.aZ (d.s.ag.wait d.n d.i.n d.i.c d.choice).2.2.2).s) rfl).block (d:=d.aZ (d.s.ag.wait d.n d.i.n d.i.c d.choice).2.2.2) ht hk.R (by decide)⟩) (Nat.le_trans hk.ends (by decide)) (Nat.le_trans hk.GP (by decide))) fun _ _=>?_
    refine J 2 ?_
    rw[show d.mutex=((d.aZ (d.s.ag.wait d.n d.i.n d.i.c d.choice).2.2.2).block 2 (-1) d.i.n d.i.c).given (d.s.ag.wait d.n d.i.n d.i.c d.choice).1 (d.s.ag.wait d.n d.i.n d.i.c d.choice).2.1 from by unfold Dng.mutex;simp only;rw[if_neg h81,if_neg h120,if_neg h48,hwc]]
    exact JR 0 ()
end Go.SLYtefdijgllbkmfaaGreat
namespace Go.SLYtefdijgllbkmfaaGreat
open Go Go.RowKit Go.Proofs Go.Proofs.Tryz
attribute [local irreducible] ax aQ bu cj bQ Y
theorem H7{W:World}{bd b p:Nat}{ps:List (Option Nat)}{d:Dng}{t:bo}(hp:ps[d.n]?=some (some p))(ht:d.s.thr[d.n]?=some (some t))(hk:iD ps d t)(hop:d.i.op=35∨d.i.op=36):Fn Tryz.prog W 176 [ptr bd] [bB bd b p ps d] Unit (fun _=>.tuple #[]) (fun _=>True) (fun _=>[bB bd b p ps (d.put)]):=by
 refine Fn.intro (N:=57) func176 rfl ntmps176 rfl fun F=>?_
 show ax _ _ _ _ _ _ [bB bd b p ps d,F]
 refine .o2 (C:=bB bd b p ps (d)) .auto rfl ?_
 rintro vw ve -
 refine .jq (C:=dt b ps (d).s) .auto rfl ?_
 rintro fv sv pv bt vm bg vt bk bw vr -
 have hnn:=hk.nn
 have hn0:=hk.I.n
 refine .o1 (C:=nR vt d.s.bA) .auto rfl ?_
 rintro xs hxs
 obtain⟨xq,hx,hmem⟩:=A3 hxs hn0.1 (hk.oC hop)
 have hxl:xs.length=d.s.bA.length:=by rw[← hxs,List.length_map]
 have hti:=hk.oC hop
 refine .fr .auto (cq hp ht) ?_
 refine J 1 ?_
 refine .draw [] [1,1,1,1,1,1,1,1,1,1,1,1,1,1,1] rfl (by kernel_rfl) ?_
 refine J 12 ?_
 refine .p (.ix d.i.n.toNat rfl rfl (by omega) (by omega)) ?_
 refine .p (.lr rfl hx) ?_
 refine J 6 ?_
 refine .c call120 rfl (Kd ht hk.I.a) fun _ _=>?_
 refine J 5 ?_
 obtain⟨x,hx0⟩:∃ x,x=d.a:=⟨_,rfl⟩
 rw[← hx0]
 refine J 6 ?_
 refine .fr .auto (lY (f:=fun x:Nat×Tub=>il x.1 x.2) hx) ?_
 refine .c call216 rfl (F5 (hk.tl _ hmem)) fun _ _=>?_
 refine .to (A:=nR vt (d.s.bA.set d.i.n.toNat (d.bc.put d.n x).2.2.2)) (Bs:=[sl df 1 vt xs,il xq (d.bc.put d.n x).2.2.2,aT (fun x:Nat×Tub=>il x.1 x.2) (xs.eraseIdx d.i.n.toNat)]) .auto (vV hx hxs (d.bc.put d.n x).2.2.2) ?_
 refine .to (A:=aE ps d.s.thr) (Bs:=[arr p 0 (bz t),aE (ps.set d.n none) (d.s.thr.set d.n none)]) .auto (cz hp ht) ?_
 refine J 1 ?_
 refine .p (.extract (v:=.bool (d.bc.put d.n x).1) rfl rfl) ?_
 refine .p (.extract (v:=.int .i64 (d.bc.put d.n x).2.1) rfl rfl) ?_
 refine .p (.extract (v:=.bool (d.bc.put d.n x).2.2.1) rfl rfl) ?_
 refine JD 12 (fun h35=>?_) fun h35=>?_
 ·refine J 9 ?_
  refine .c call164 rfl (gF (d:=(d.dP d.i.n.toNat (d.bc.put d.n x).2.2.2)) hp ht (Nat.le_trans hk.au (by decide))) fun _ _=>?_
  refine J 4 ?_
  rw[show d.put=(d.dP d.i.n.toNat (d.bc.put d.n x).2.2.2).block 7 (-1) d.i.n x from by unfold Dng.put;rw[← hx0];simp only;rw[if_pos (by simpa using h35)]]
  exact JR 0 ()
 ·refine J 11 ?_
  refine .c call117 rfl (cR (d:=(d.dP d.i.n.toNat (d.bc.put d.n x).2.2.2)) hp ht (Nat.le_trans hk.au (by decide)) (by decide) hk.R.l) fun _ _=>?_
  refine JD 7 (fun h52=>?_) fun h52=>?_
  ·have hlv:=(hk.xJ _ hmem).1 _ (Ex h52)
   obtain⟨hw16,q,u,hq,hu,hRu⟩:=(hlv.2.of (s':=(d.dP d.i.n.toNat (d.bc.put d.n x).2.2.2).s) rfl).pass (x:=d.i.n) (y:=x) (e:=0) (d:=(d.dP d.i.n.toNat (d.bc.put d.n x).2.2.2)) ht hk.R (by decide)
   refine J 4 ?_
   refine .c call114 rfl (kJ (d:=(d.dP d.i.n.toNat (d.bc.put d.n x).2.2.2).pass d.i.n x 0) hlv.1 hq hu hw16 hRu (Nat.le_trans hk.ends (by decide)) (Nat.le_trans hk.GP (by decide))) fun _ _=>?_
   refine J 1 ?_
   rw[show d.put=((d.dP d.i.n.toNat (d.bc.put d.n x).2.2.2).pass d.i.n x 0).dZ (d.bc.put d.n x).2.1.toNat x from by unfold Dng.put;rw[← hx0];simp only;rw[if_neg (by simpa using h35),if_pos h52]]
   exact JR 0 ()
  ·refine J 1 ?_
   rw[show d.put=(d.dP d.i.n.toNat (d.bc.put d.n x).2.2.2).pass d.i.n x 0 from by unfold Dng.put;rw[← hx0];simp only;rw[if_neg (by simpa using h35),if_neg (by rw[h52];simp)]]
   exact JR 0 ()
theorem H8{W:World}{bd b p:Nat}{ps:List (Option Nat)}{d:Dng}{t:bo}(hp:ps[d.n]?=some (some p))(ht:d.s.thr[d.n]?=some (some t))(hk:iD ps d t)(hop:d.i.op=35∨d.i.op=36):Fn Tryz.prog W 177 [ptr bd] [bB bd b p ps d] Unit (fun _=>.tuple #[]) (fun _=>True) (fun _=>[bB bd b p ps (d.get)]):=by
 refine Fn.intro (N:=70) func177 rfl ntmps177 rfl fun F=>?_
 show ax _ _ _ _ _ _ [bB bd b p ps d,F]
 refine .o2 (C:=bB bd b p ps (d)) .auto rfl ?_
 rintro vw ve -
 refine .jq (C:=dt b ps (d).s) .auto rfl ?_
 rintro fv sv pv bt vm bg vt bk bw vr -
 have hnn:=hk.nn
 have hn0:=hk.I.n
 refine .o1 (C:=nR vt d.s.bA) .auto rfl ?_
 rintro xs hxs
 obtain⟨xq,hx,hmem⟩:=A3 hxs hn0.1 (hk.oC hop)
 have hxl:xs.length=d.s.bA.length:=by rw[← hxs,List.length_map]
 have hti:=hk.oC hop
 have hIa:=hk.I.a
 have hRl:=hk.R.l
 refine J 1 ?_
 refine .fr .auto (lY (f:=fun x:Nat×Tub=>il x.1 x.2) hx) ?_
 refine .draw [arr bd 0 (eA b p d vw ve),arr b 0 (fM fv sv pv d.s.dK bt ps vm bg vt bk bw vr),sl df 1 vt xs] [1,1,1,1,1,1,1,1,1,1,1,1,1,1,1,1,1,1,3,1,1,1,1,1,1,1,1,1] rfl (by kernel_rfl) ?_
 refine J 12 ?_
 refine .p (.ix d.i.n.toNat rfl rfl (by omega) (by omega)) ?_
 refine .p (.lr rfl hx) ?_
 refine J 4 ?_
 refine .c call217 rfl (F6 (hk.tl _ hmem)) fun _ _=>?_
 refine J 1 ?_
 refine .p (.extract (v:=.int .u64 (d.bc.get d.n).1) rfl rfl) ?_
 refine .p (.extract (v:=.bool (d.bc.get d.n).2.1) rfl rfl) ?_
 refine .p (.extract (v:=.int .i64 (d.bc.get d.n).2.2.1) rfl rfl) ?_
 refine .p (.extract (v:=.bool (d.bc.get d.n).2.2.2.1) rfl rfl) ?_
 refine JD 13 (fun h31=>?_) fun h31=>?_
 ·refine J 1 ?_
  refine .to (A:=nR vt (d.s.bA.set d.i.n.toNat (d.bc.get d.n).2.2.2.2)) (Bs:=[sl df 1 vt xs,il xq (d.bc.get d.n).2.2.2.2,aT (fun x:Nat×Tub=>il x.1 x.2) (xs.eraseIdx d.i.n.toNat)]) .auto (vV hx hxs (d.bc.get d.n).2.2.2.2) ?_
  refine .draw [] [1,1,1,1,1,1,1,1,1,1,1,3] rfl (by kernel_rfl) ?_
  refine J 11 ?_
  refine .c call164 rfl (gF (d:=(d.dP d.i.n.toNat (d.bc.get d.n).2.2.2.2)) hp ht (Nat.le_trans hk.au (by decide))) fun _ _=>?_
  refine J 4 ?_
  rw[show d.get=(d.dP d.i.n.toNat (d.bc.get d.n).2.2.2.2).block 6 d.i.a d.i.n 0 from by unfold Dng.get;simp only;rw[if_pos (by simpa using h31)]]
  exact JR 0 ()
 ·refine J 3 ?_
  refine .to (A:=nR vt (d.s.bA.set d.i.n.toNat (d.bc.get d.n).2.2.2.2)) (Bs:=[sl df 1 vt xs,il xq (d.bc.get d.n).2.2.2.2,aT (fun x:Nat×Tub=>il x.1 x.2) (xs.eraseIdx d.i.n.toNat)]) .auto (vV hx hxs (d.bc.get d.n).2.2.2.2) ?_
  refine .fr .auto (cq hp ht) ?_
  refine .draw [arr bd 0 (eA b p d vw ve)] [1,1,1,1,1,1,1,1,1,1,1,1,1,1,3] rfl (by kernel_rfl) ?_
  refine J 13 ?_
  refine .p (.aD d.i.a.toNat underlying39 sizeOf38 rfl rfl (by omega) (by omega)) ?_
  refine .d3 rfl (af.st sizeOf38 rfl rfl rfl (Nat.blt_eq.mpr (by show 2+d.i.a.toNat * 1<18;omega))) ?_
  rintro _ _ ⟨rfl,rfl⟩
  rw[jc _ (by omega) (by omega) hRl]
  refine .to (A:=aE ps (d.s.thr.set d.n (some (t.put d.i.a (d.bc.get d.n).1)))) (Bs:=[arr p 0 (bz (t.put d.i.a (d.bc.get d.n).1)),aE (ps.set d.n none) (d.s.thr.set d.n none)]) .auto (cY (List.getElem?_eq_some_iff.1 ht).1 hp) ?_
  refine J 11 ?_
  refine .c call117 rfl (cR (d:=((d.dP d.i.n.toNat (d.bc.get d.n).2.2.2.2).aj (t.put d.i.a (d.bc.get d.n).1))) (t:=t.put d.i.a (d.bc.get d.n).1) hp (bW ht) (Nat.le_trans hk.au (by decide)) (by decide) (by rw[jF];exact hRl)) fun _ _=>?_
  refine JD 7 (fun h66=>?_) fun h66=>?_
  ·obtain⟨z,hz,hzw⟩:=Ey h66
   have hlv:=(hk.xJ _ hmem).2 z hz
   rw[hzw] at hlv
   have hRg:=hk.R.put (i:=d.i.a) (Ez (who:=d.n) (hk.tw _ hmem))
   obtain⟨hw16,q,u,hq,hu,hRu⟩:=((hlv.2.of (s':=(d.dP d.i.n.toNat (d.bc.get d.n).2.2.2.2).s) rfl).aj (n:=d.n) hRg).pass (x:=d.i.n) (y:=(d.bc.get d.n).1) (e:=0) (d:=((d.dP d.i.n.toNat (d.bc.get d.n).2.2.2.2).aj (t.put d.i.a (d.bc.get d.n).1))) (bW ht) hRg (by decide)
   refine J 3 ?_
   refine .c call114 rfl (kJ (d:=((d.dP d.i.n.toNat (d.bc.get d.n).2.2.2.2).aj (t.put d.i.a (d.bc.get d.n).1)).pass d.i.n (d.bc.get d.n).1 0) hlv.1 hq hu hw16 hRu (Nat.le_trans hk.ends (by decide)) (Nat.le_trans hk.GP (by decide))) fun _ _=>?_
   refine J 1 ?_
   rw[show d.get=(((d.dP d.i.n.toNat (d.bc.get d.n).2.2.2.2).aj (t.put d.i.a (d.bc.get d.n).1)).pass d.i.n (d.bc.get d.n).1 0).dZ (d.bc.get d.n).2.2.1.toNat 0 from by unfold Dng.get;simp only;rw[if_neg (by simpa using h31),if_pos h66,show(d.dP d.i.n.toNat (d.bc.get d.n).2.2.2.2).t=t from ck ht]]
   exact JR 0 ()
  ·refine J 1 ?_
   rw[show d.get=((d.dP d.i.n.toNat (d.bc.get d.n).2.2.2.2).aj (t.put d.i.a (d.bc.get d.n).1)).pass d.i.n (d.bc.get d.n).1 0 from by unfold Dng.get;simp only;rw[if_neg (by simpa using h31),if_neg (by rw[h66];simp),show(d.dP d.i.n.toNat (d.bc.get d.n).2.2.2.2).t=t from ck ht]]
   exact JR 0 ()
end Go.SLYtefdijgllbkmfaaGreat
namespace Go.SLYtefdijgllbkmfaaGreat
open Go Go.RowKit Go.Proofs Go.Proofs.Tryz
attribute [local irreducible] ax aQ bu cj bQ Y
theorem De{W:World}{bd b p:Nat}{ps:List (Option Nat)}{d:Dng}{t:bo}(hp:ps[d.n]?=some (some p))(ht:d.s.thr[d.n]?=some (some t))(hk:iD ps d t):Fn Tryz.prog W 116 [ptr bd] [bB bd b p ps d] (List (Option Nat)) (fun _=>.tuple #[]) (fun _=>True) (fun qs=>[bB bd b p qs d.spawn]):=by
 refine Fn.intro (N:=70) func116 rfl ntmps116 rfl fun F=>?_
 show ax _ _ _ _ _ _ [bB bd b p ps d,F]
 refine .o2 (C:=bB bd b p ps (d)) .auto rfl ?_
 rintro vw ve -
 refine .jq (C:=dt b ps (d).s) .auto rfl ?_
 rintro fv sv pv bt vm bg vt bk bw vr -
 have hnn:=hk.nn
 have hn0:=hk.I.n
 refine .fr .auto (cq hp ht) ?_
 have hIa:=hk.I.a
 have hRl:=hk.R.l
 have hlt:=hk.lt
 refine J 1 ?_
 refine .draw [arr bd 0 (eA b p d vw ve)] [0,0,0,0,0,0,0,0,0,0,1,2,3,1,1,1,1,1] rfl (by kernel_rfl) ?_
 refine J 9 ?_
 refine .q (.gy underlying38 underlying3 rfl (by omega)) ?_
 refine J 1 ?_
 refine .c2 call162 rfl (F9 ht hk.I.b) fun _ _=>?_
 refine .to (A:=aE ps d.s.thr) (Bs:=[arr p 0 (bz t),aE (ps.set d.n none) (d.s.thr.set d.n none)]) .auto (cz hp ht) ?_
 refine .d3 rfl (af.eO rfl call65 rfl (td hk.T hk.lt hk.free) .auto) ?_
 rintro _ _ ⟨qs,⟨q,hqs⟩,rfl,rfl⟩
 refine J 1 ?_
 refine .p (.extract (v:=.int .i64 (d.s.begin d.i.n d.b).1) rfl rfl) ?_
 refine .p (.extract (v:=.int .i64 (d.s.begin d.i.n d.b).2.1) rfl rfl) ?_
 refine JD 16 (fun h22=>?_) fun h22=>?_
 ·obtain⟨n,hfr⟩:∃ n,slotFree? d.s.table 0=some n:=by
   cases hh:slotFree? d.s.table 0 with
   | none=>rw[iY hh] at h22;cases h22
   | some n=>exact⟨n,rfl⟩
  have hb1:(d.s.begin d.i.n d.b).1=(n:Int):=by rw[dX hfr]
  have hn0e:=hk.free n hfr
  have hn16:n<16:=hlt ▸ (List.getElem?_eq_some_iff.1 hn0e).1
  obtain⟨t1,ht1,ht1e⟩:=pP (f:=d.i.n) (arg:=d.b) hfr (by omega)
  have hqn:qs[n]?=some (some q):=by
   rw[hqs];unfold mu;rw[hfr];exact List.getElem?_set_self (by rw[hk.lp];exact hn16)
  have hne:n≠d.n:=fun e=>by rw[e,ht] at hn0e;cases hn0e
  have hp2:qs[d.n]?=some (some p):=by
   rw[hqs];unfold mu;rw[hfr];exact(List.getElem?_set_ne hne).trans hp
  have ht2:(d.s.begin d.i.n d.b).2.2.thr[d.n]?=some (some t):=by
   rw[dX hfr];exact(List.getElem?_set_ne hne).trans ht
  rw[hb1]
  refine J 2 ?_
  refine .jq (C:=dt b qs (d.s.begin d.i.n d.b).2.2) .auto rfl ?_
  rintro fv sv pv bt vm bg vt bk bw vr -
  refine .fr .auto (cq hqn ht1) ?_
  refine J 7 ?_
  refine .p (.aD n underlying123 sizeOf122 rfl rfl rfl hn16) ?_
  refine .p (.ld rfl (Cell.a (by rw[Nat.mul_one,eQ hn16,eL hqn]))) ?_
  refine J 14 ?_
  refine .aw rfl (af.gQ 3 rfl rfl (by kernel_rfl)) ?_
  rintro _ _ ⟨b42,rfl,rfl⟩
  refine .aw rfl (af.fi (enc:=aL) (k:=1) (n:Int) rfl underlying23 underlying23 typeInfo3 rfl rfl rfl (by decide) rfl rfl rfl .auto rfl .auto (by have:=hk.GP;omega) rfl) ?_
  rintro _ _ ⟨v43,rfl,rfl⟩
  refine J 3 ?_
  refine .aw rfl (af.pz sizeOf23 rfl rfl rfl) ?_
  rintro _ _ ⟨rfl,rfl⟩
  refine J 3 ?_
  refine .to (A:=aE qs (d.s.begin d.i.n d.b).2.2.thr) (Bs:=[arr q 0 (bz t1),aE (qs.set n none) ((d.s.begin d.i.n d.b).2.2.thr.set n none)]) .auto (cz hqn ht1) ?_
  refine .fr .auto (cq hp2 ht2) ?_
  refine .draw [arr bd 0 (eA b p d v43 ve)] [1,1,1,1,1,1,1,1,1,1,1,1,1,1,3] rfl (by kernel_rfl) ?_
  refine J 13 ?_
  refine .p (.aD d.i.a.toNat underlying39 sizeOf38 rfl rfl (by omega) (by omega)) ?_
  refine .d3 rfl (af.st sizeOf38 rfl rfl rfl (Nat.blt_eq.mpr (by show 2+d.i.a.toNat * 1<18;omega))) ?_
  rintro _ _ ⟨rfl,rfl⟩
  rw[jc _ (by omega) (by omega) hRl]
  refine .to (A:=aE qs ((d.s.begin d.i.n d.b).2.2.thr.set d.n (some (t.put d.i.a t1.handle)))) (Bs:=[arr p 0 (bz (t.put d.i.a t1.handle)),aE (qs.set d.n none) ((d.s.begin d.i.n d.b).2.2.thr.set d.n none)]) .auto (cY (List.getElem?_eq_some_iff.1 ht2).1 hp2) ?_
  refine J 11 ?_
  refine .c call117 rfl (cR (d:=({d with s:=(d.s.begin d.i.n d.b).2.2,out:={d.out with aM:=d.out.aM++[(n:Int)] } }:Dng).aj (t.put d.i.a t1.handle)) (ps:=qs) (p:=p) (t:=t.put d.i.a t1.handle) hp2 (bW ht2) (by show(d.s.begin d.i.n d.b).2.2.au.length≤_;rw[dX hfr];exact(Nat.le_trans hk.au (by decide))) (by rw[h22];decide) (by rw[jF];exact hRl)) fun _ _=>?_
  refine J 1 ?_
  rw[show d.spawn=(({d with s:=(d.s.begin d.i.n d.b).2.2,out:={d.out with aM:=d.out.aM++[(n:Int)] } }:Dng).aj (t.put d.i.a t1.handle)).pass d.i.n t1.handle (d.s.begin d.i.n d.b).2.1 from by unfold Dng.spawn;simp only;rw[if_pos h22,if_pos h22,hb1,Int.toNat_natCast,cW ht1,show({d with s:=(d.s.begin d.i.n d.b).2.2,out:={d.out with aM:=d.out.aM++[(n:Int)] } }:Dng).t=t from cW ht2]]
  exact JR 0 qs
 ·have hfr:slotFree? d.s.table 0=none:=by
   cases hh:slotFree? d.s.table 0 with
   | none=>rfl
   | some n=>exact absurd (by rw[dX hh]) h22
  have hb:(d.s.begin d.i.n d.b)=(0,2,d.s):=iY hfr
  obtain rfl:qs=ps:=by rw[hqs];unfold mu;rw[hfr]
  rw[hb]
  have hp2:=hp
  have ht2:=ht
  refine .to (A:=dt b qs d.s) (Bs:=[dt b qs d.s]) .auto (fun h a=>by simpa only[seps,aP] using a) ?_
  refine .jq (C:=dt b qs d.s) .auto rfl ?_
  rintro fv sv pv bt vm bg vt bk bw vr -
  refine .fr .auto (cq hp2 ht2) ?_
  refine J 3 ?_
  refine .draw [arr bd 0 (eA b p d vw ve)] [1,1,1,1,1,1,1,1,1,1,1,1,1,1,3] rfl (by kernel_rfl) ?_
  refine J 13 ?_
  refine .p (.aD d.i.a.toNat underlying39 sizeOf38 rfl rfl (by omega) (by omega)) ?_
  refine .d3 rfl (af.st sizeOf38 rfl rfl rfl (Nat.blt_eq.mpr (by show 2+d.i.a.toNat * 1<18;omega))) ?_
  rintro _ _ ⟨rfl,rfl⟩
  rw[jc _ (by omega) (by omega) hRl]
  refine .to (A:=aE qs (d.s.thr.set d.n (some (t.put d.i.a 0)))) (Bs:=[arr p 0 (bz (t.put d.i.a 0)),aE (qs.set d.n none) (d.s.thr.set d.n none)]) .auto (cY (List.getElem?_eq_some_iff.1 ht2).1 hp2) ?_
  refine J 11 ?_
  refine .c call117 rfl (cR (d:=d.aj (t.put d.i.a 0)) (ps:=qs) (p:=p) (t:=t.put d.i.a 0) (e:=2) hp2 (bW ht2) (Nat.le_trans hk.au (by decide)) (by decide) (by rw[jF];exact hRl)) fun _ _=>?_
  refine J 1 ?_
  rw[show d.spawn=(d.aj (t.put d.i.a 0)).pass d.i.n 0 2 from by unfold Dng.spawn;rw[hb];simp only;rw[if_neg (by decide),if_neg (by decide),ck ht]]
  exact JR 0 qs
theorem Au{W:World}{bd b p:Nat}{ps:List (Option Nat)}{d:Dng}{t:bo}(hp:ps[d.n]?=some (some p))(ht:d.s.thr[d.n]?=some (some t))(hk:iD ps d t):Fn Tryz.prog W 125 [ptr bd] [bB bd b p ps d] Unit (fun _=>.tuple #[]) (fun _=>True) (fun _=>[bB bd b p ps (d.kernel)]):=by
 refine Fn.intro (N:=42) func125 rfl ntmps125 rfl fun F=>?_
 show ax _ _ _ _ _ _ [bB bd b p ps d,F]
 refine .o2 (C:=bB bd b p ps (d)) .auto rfl ?_
 rintro vw ve -
 have ha0:0≤d.a:=by
  unfold Dng.a;rw[ck ht];exact(hk.R.r _).1
 have hb0:0≤d.b:=by
  unfold Dng.b;rw[ck ht];exact(hk.R.r _).1
 refine JD 16 (fun h11=>?_) fun h11=>?_
 ·refine .jq (C:=dt b ps (d).s) .auto rfl ?_
  rintro fv sv pv bt vm bg vt bk bw vr -
  refine .fr .auto (cq hp ht) ?_
  refine .draw [arr bd 0 (eA b p d vw ve)] [0,1,2,0,0,0,0,0,3] rfl (by kernel_rfl) ?_
  refine J 2 ?_
  refine .c2 call162 rfl (F9 ht hk.I.b) fun _ _=>?_
  refine J 5 ?_
  refine .to (A:=aE ps d.s.thr) (Bs:=[arr p 0 (bz t),aE (ps.set d.n none) (d.s.thr.set d.n none)]) .auto (cz hp ht) ?_
  refine .c call175 rfl (BM hp ht hk hb0) fun _ _=>?_
  refine J 2 ?_
  rw[show d.kernel=d.ask d.b 0 d.i.a from by unfold Dng.kernel;repeat (first | rw[if_neg (by omega)] | rw[if_pos (by omega)])]
  exact JR 0 ()
 ·refine JD 6 (fun h22=>?_) fun h22=>?_
  ·refine J 3 ?_
   refine .c call120 rfl (u7 hp ht hk.I.a) fun _ _=>?_
   refine J 1 ?_
   refine .c call162 rfl (II hp ht hk.I.b) fun _ _=>?_
   refine .c call175 rfl (BM hp ht hk ha0) fun _ _=>?_
   refine J 2 ?_
   rw[show d.kernel=d.ask d.a d.b (-1) from by unfold Dng.kernel;repeat (first | rw[if_neg (by omega)] | rw[if_pos (by omega)])]
   exact JR 0 ()
  ·refine JD 6 (fun h30=>?_) fun h30=>?_
   ·refine J 2 ?_
    refine .c call176 rfl (H7 hp ht hk (.inl h30)) fun _ _=>?_
    refine J 2 ?_
    rw[show d.kernel=d.put from by unfold Dng.kernel;repeat (first | rw[if_neg (by omega)] | rw[if_pos (by omega)])]
    exact JR 0 ()
   ·refine JD 6 (fun h34=>?_) fun h34=>?_
    ·refine J 2 ?_
     refine .c call177 rfl (H8 hp ht hk (.inr h34)) fun _ _=>?_
     refine J 2 ?_
     rw[show d.kernel=d.get from by unfold Dng.kernel;repeat (first | rw[if_neg (by omega)] | rw[if_pos (by omega)])]
     exact JR 0 ()
    ·refine JD 6 (fun h38=>?_) fun h38=>?_
     ·refine J 2 ?_
      refine .c call178 rfl (Dd hp ht hk) fun _ _=>?_
      refine J 2 ?_
      rw[show d.kernel=d.sleep from by unfold Dng.kernel;repeat (first | rw[if_neg (by omega)] | rw[if_pos (by omega)])]
      exact JR 0 ()
     ·refine J 3 ?_
      refine .c call120 rfl (u7 hp ht hk.I.a) fun _ _=>?_
      refine .c call117 rfl (cR hp ht (Nat.le_trans hk.au (by decide)) (by decide) hk.R.l) fun _ _=>?_
      refine J 2 ?_
      rw[show d.kernel=d.pass d.a 0 0 from by unfold Dng.kernel;repeat (first | rw[if_neg (by omega)] | rw[if_pos (by omega)])]
      exact JR 0 ()
end Go.SLYtefdijgllbkmfaaGreat
namespace Go.SLYtefdijgllbkmfaaGreat
open Go Go.RowKit Go.Proofs Go.Proofs.Tryz
attribute [local irreducible] ax aQ bu cj bQ Y
theorem vh{W:World}{bd b p:Nat}{ps:List (Option Nat)}{d:Dng}{l:List Int}{u:Value}(hl:∀ w∈l,0≤w∧bZ ps d.s w.toNat)(hw:∀ w∈d.waits,0≤w∧bZ ps d.s w.toNat)(hm:d.s.dK.aB≤(d.s.ag.aF.length:Int))(hgm:d.s.ag.aF.length≤1000000)(hmw:∀ x∈d.s.ag.aF,x.wait.length≤1000000)(hb:d.ends.length+l.length≤1000000∧d.out.aM.length+l.length≤1000000):Fn Tryz.prog W 123 [ptr bd,u] [bB bd b p ps d,sl aL 1 u l] Unit (fun _=>.tuple #[]) (fun _=>True) (fun _=>[bB bd b p ps (d.j8 l),sl aL 1 u l]):=by
 refine Fn.intro (N:=57) func123 rfl ntmps123 rfl fun F=>?_
 show ax _ _ _ _ _ _ [bB bd b p ps d,sl aL 1 u l,F]
 refine .o2 (C:=bB bd b p ps d) .auto rfl ?_
 rintro vw ve -
 refine .jq (C:=dt b ps d.s) .auto rfl ?_
 rintro fv sv pv bt vm bg vt bk bw vr -
 have hww:eM d d.s.dK.aB.toNat=d.waits:=rfl
 refine J 15 ?_
 refine .cM (X:=Nat) [4,6,17,18,19,20,21,22,23,24,25,26,27,28,29,30,31,32,33,34,35,36,37,38,39,40,41,42,43,44,45,46] (fun k=>d.s.dK.aB.toNat-k) (fun k=>k≤d.s.dK.aB.toNat) (fun k=>[(17,some (.int .i64 (k:Int)))]) (fun k=>[bB bd b p ps ({d with s:=bY d.s (eM d k) }:Dng),sl aL 1 u l,F]) 0 ?_ ?_ ?_ ?_
 ·exact Nat.zero_le _
 ·exact⟨rfl,trivial⟩
 ·exact fun w s=>aK.kept .auto w s
 rintro k hk
 refine JD 6 (fun h18=>?_) fun h18=>?_
 ·refine J 12 ?_
  obtain⟨x,hx⟩:=ay (show k<d.s.ag.aF.length by omega)
  refine .o2 (C:=bB bd b p ps (({d with s:=bY d.s (eM d k) }:Dng))) .auto rfl ?_
  rintro vw ve -
  refine .jq (C:=dt b ps (({d with s:=bY d.s (eM d k) }:Dng)).s) .auto rfl ?_
  rintro fv sv pv bt vm bg vt bk bw vr -
  refine J 8 ?_
  have hxg:(bY d.s (eM d k)).ag.aF[k]?=some x:=by rw[vX];exact hx
  have hxl:=hmw x (List.mem_of_getElem? hx)
  refine .c call172 rfl (tL hxg hxl) fun u28 _=>?_
  refine J 5 ?_
  refine .cM (X:=Nat) [6,30,31,32,33,34,35,36,37,38,39,40,41,42,43,44,45] (fun j=>(x.wait.map (·.who)).length-j) (fun j=>j≤(x.wait.map (·.who)).length) (fun j=>[(30,some (.int .i64 (j:Int)))]) (fun j=>[bB bd b p ps ({d with s:=bY d.s (eM d k++(x.wait.map (·.who)).take j) }:Dng),sl aL 1 u28 (x.wait.map (·.who)),sl aL 1 u l,F]) 0 ?_ ?_ ?_ ?_
  ·exact Nat.zero_le _
  ·exact⟨rfl,trivial⟩
  ·rw[List.take_zero,List.append_nil];exact fun w s=>aK.kept .auto w s
  rintro j hj
  refine JD 6 (fun h31=>?_) fun h31=>?_
  ·refine J 6 ?_
   have hxl2:(x.wait.map (·.who)).length≤1000000:=by rw[List.length_map];exact hxl
   obtain⟨w,hwj⟩:=ay (show j<(x.wait.map (·.who)).length by omega)
   have hwm:w∈d.waits:=List.mem_flatMap.2 ⟨x,List.mem_of_getElem? (i:=k) (by rw[List.getElem?_take_of_lt (by omega)];exact hx),List.mem_of_getElem? hwj⟩
   obtain⟨hw0,hwl⟩:=hw w hwm
   obtain⟨hw16,q,v,hq,hv,hRv⟩:=sr w.toNat (eM d k++(x.wait.map (·.who)).take j) hwl
   refine J 6 ?_
   refine .o2 (C:=bB bd b p ps (({d with s:=bY d.s (eM d k++(x.wait.map (·.who)).take j) }:Dng))) .auto rfl ?_
   rintro vw ve -
   refine .jq (C:=dt b ps (({d with s:=bY d.s (eM d k++(x.wait.map (·.who)).take j) }:Dng)).s) .auto rfl ?_
   rintro fv sv pv bt vm bg vt bk bw vr -
   refine .fr .auto (cq hq hv) ?_
   refine J 7 ?_
   refine .p (.aD w.toNat underlying123 sizeOf122 rfl rfl (by omega) hw16) ?_
   refine .p (.ld rfl (Cell.a (by rw[Nat.mul_one,eQ hw16,eL hq]))) ?_
   refine J 3 ?_
   rw[ov]
   refine J 7 ?_
   refine .to (A:=aE ps (({d with s:=bY d.s (eM d k++(x.wait.map (·.who)).take j) }:Dng).s.thr.set w.toNat (some ({v with why:=1 })))) (Bs:=[arr q 0 (bz ({v with why:=1 })),aE (ps.set w.toNat none) (({d with s:=bY d.s (eM d k++(x.wait.map (·.who)).take j) }:Dng).s.thr.set w.toNat none)]) .auto (cY (List.getElem?_eq_some_iff.1 hv).1 hq) ?_
   refine .bf (j+1) .auto rfl ?_ ?_ ?_ ?_
   ·omega
   ·show j+1≤_;omega
   ·exact⟨rfl,trivial⟩
   ·rw[cy hwj, ← List.append_assoc,zA _ _ [w],show bY (bY d.s (eM d k++(x.wait.map (·.who)).take j)) [w]=(bY d.s (eM d k++(x.wait.map (·.who)).take j)).aj w.toNat {v with why:=1 } from by show Spc.aj _ _ _=_;rw[cW hv]];exact fun w s=>aK.kept .auto w s
  ·refine J 10 ?_
   rw[List.take_of_length_le (by omega), ← v8 hx]
   refine .bf (k+1) .auto rfl ?_ ?_ ?_ ?_
   ·omega
   ·show k+1≤_;omega
   ·exact⟨rfl,trivial⟩
   ·exact fun w s=>aK.kept .auto w s
 ·refine J 13 ?_
  rw[show k=d.s.dK.aB.toNat from by omega,hww]
  refine .cM (X:=Nat) [8,49,50,51,52,53,54,55,56] (fun k=>l.length-k) (fun k=>k≤l.length) (fun k=>[(49,some (.int .i64 (k:Int)))]) (fun k=>[bB bd b p ps (({d with s:=bY d.s d.waits }:Dng).dE (l.take k)),sl aL 1 u l,F]) 0 ?_ ?_ ?_ ?_
  ·exact Nat.zero_le _
  ·exact⟨rfl,trivial⟩
  ·exact fun w s=>aK.kept .auto w s
  rintro k hk
  refine JD 6 (fun h50=>?_) fun h50=>?_
  ·refine J 6 ?_
   obtain⟨w,hwj⟩:=ay (show k<l.length by omega)
   have hwl:=hl w (List.mem_of_getElem? hwj)
   obtain⟨hw16,q,v,hq,hv,hRv⟩:=vZ w.toNat (l.take k) ({d with s:=bY d.s d.waits }:Dng) (sr _ _ hwl.2) (fun z hz=>sr _ _ (hl z (List.mem_of_mem_take hz)).2)
   have hgl2:=qC ({d with s:=bY d.s d.waits }:Dng) (l.take k)
   rw[List.length_take] at hgl2
   refine J 8 ?_
   refine .c call114 rfl (kJ (d:=({d with s:=bY d.s d.waits }:Dng).dE (l.take k)) hwl.1 hq hv hw16 hRv (by show(Dng.dE _ _).ends.length≤_;simp only at hgl2;omega) (by show(Dng.dE _ _).out.aM.length≤_;simp only at hgl2;omega)) fun _ _=>?_
   refine J 7 ?_
   refine .bf (k+1) .auto rfl ?_ ?_ ?_ ?_
   ·omega
   ·show k+1≤_;omega
   ·exact⟨rfl,trivial⟩
   ·rw[cy hwj,vY];exact fun w s=>aK.kept .auto w s
  ·refine J 4 ?_
   rw[show d.j8 l=({d with s:=bY d.s d.waits }:Dng).dE (l.take k) from by rw[List.take_of_length_le (by omega)];rfl]
   exact JR 0 ()
theorem Ga{W:World}{bd b p:Nat}{ps:List (Option Nat)}{d:Dng}{t:bo}(hp:ps[d.n]?=some (some p))(ht:d.s.thr[d.n]?=some (some t))(hk:iD ps d t):Fn Tryz.prog W 85 [ptr bd] [bB bd b p ps d] (List (Option Nat)) (fun _=>.tuple #[]) (fun _=>True) (fun qs=>[bB bd b p qs d.call]):=by
 refine Fn.intro (N:=124) func85 rfl ntmps85 rfl fun F=>?_
 show ax _ _ _ _ _ _ [bB bd b p ps d,F]
 refine .o2 (C:=bB bd b p ps (d)) .auto rfl ?_
 rintro vw ve -
 have hnn:=hk.nn
 have hn0:=hk.I.n
 have hIa:=hk.I.a
 have hRl:=hk.R.l
 refine JD 16 (fun h11=>?_) fun h11=>?_
 ·refine J 2 ?_
  refine .c call116 rfl (De hp ht hk) fun qs _=>?_
  refine J 2 ?_
  rw[show d.call=d.spawn from by unfold Dng.call;repeat (first | rw[if_neg (by omega)] | rw[if_pos (by omega)])]
  exact JR 0 qs
 ·refine JD 6 (fun h15=>?_) fun h15=>?_
  ·refine J 1 ?_
   refine .jq (C:=dt b ps (d).s) .auto rfl ?_
   rintro fv sv pv bt vm bg vt bk bw vr -
   refine .fr .auto (cq hp ht) ?_
   refine .draw [arr bd 0 (eA b p d vw ve)] [1,1,1,1,1,1,1,1,1,1,1,1,1,1,1,1,1,1,1,1,3] rfl (by kernel_rfl) ?_
   refine J 19 ?_
   refine .p (.aD d.i.a.toNat underlying39 sizeOf38 rfl rfl (by omega) (by omega)) ?_
   refine .d3 rfl (af.st sizeOf38 rfl rfl rfl (Nat.blt_eq.mpr (by show 2+d.i.a.toNat * 1<18;omega))) ?_
   rintro _ _ ⟨rfl,rfl⟩
   rw[jc _ (by omega) (by omega) hRl]
   refine J 10 ?_
   refine .p (.ld rfl (Cell.a (cs:=bz (t.put d.i.a t.handle)) rfl)) ?_
   refine .to (A:=aE ps (d.s.thr.set d.n (some (t.put d.i.a t.handle)))) (Bs:=[arr p 0 (bz (t.put d.i.a t.handle)),aE (ps.set d.n none) (d.s.thr.set d.n none)]) .auto (cY (List.getElem?_eq_some_iff.1 ht).1 hp) ?_
   refine .c call117 rfl (cR (d:=d.aj (t.put d.i.a t.handle)) (t:=t.put d.i.a t.handle) hp (bW ht) (Nat.le_trans hk.au (by decide)) (by decide) (by rw[jF];exact hRl)) fun _ _=>?_
   refine J 2 ?_
   rw[show d.call=(d.aj (t.put d.i.a t.handle)).pass 0 t.handle 0 from by unfold Dng.call;rw[if_neg h11,if_pos h15,ck ht]]
   exact JR 0 ps
  ·refine JD 6 (fun h46=>?_) fun h46=>?_
   ·refine J 3 ?_
    refine .c call117 rfl (cR hp ht (Nat.le_trans hk.au (by decide)) (by decide) hk.R.l) fun _ _=>?_
    refine J 3 ?_
    refine .o2 (C:=bB bd b p ps (d.pass 0 0 0)) .auto rfl ?_
    rintro vw ve -
    refine J 5 ?_
    rw[GO]
    refine J 2 ?_
    rw[show d.call = {d.pass 0 0 0 with out:={d.out with yielded:=true } } from by unfold Dng.call;repeat (first | rw[if_neg (by omega)] | rw[if_pos (by omega)])]
    exact JR 0 ps
   ·refine JD 6 (fun h54=>?_) fun h54=>?_
    ·refine J 2 ?_
     refine .c call118 rfl (F8 hp ht hk) fun qs _=>?_
     refine J 2 ?_
     rw[show d.call=d.join from by unfold Dng.call;repeat (first | rw[if_neg (by omega)] | rw[if_pos (by omega)])]
     exact JR 0 qs
    ·refine JD 6 (fun h58=>?_) fun h58=>?_
     ·refine J 2 ?_
      refine .c call119 rfl (Ar hp ht hk) fun qs _=>?_
      refine J 2 ?_
      rw[show d.call=d.cO from by unfold Dng.call;repeat (first | rw[if_neg (by omega)] | rw[if_pos (by omega)])]
      exact JR 0 qs
     ·refine JD 6 (fun h62=>?_) fun h62=>?_
      ·refine J 4 ?_
       refine .c call120 rfl (u7 hp ht hk.I.a) fun _ _=>?_
       refine .c call82 rfl (jo hp ht (Nat.le_trans hk.au (by decide))) fun _ _=>?_
       refine J 5 ?_
       refine .c call120 rfl (u7 (d:=d.tell d.a 0 0 true) hp ht hk.I.a) fun _ _=>?_
       rw[show(d.tell d.a 0 0 true).a=d.a from rfl]
       refine .c call83 rfl (rk (d:=d.tell d.a 0 0 true) hp ht hk.lt hk.lp hk.T hk.R (Nat.le_trans hk.ends (by decide)) (Nat.le_trans hk.GP (by decide)) hk.join) fun qs _=>?_
       refine J 2 ?_
       rw[show d.call=(d.tell d.a 0 0 true).fin d.a from by unfold Dng.call;repeat (first | rw[if_neg (by omega)] | rw[if_pos (by omega)])]
       exact JR 0 qs
      ·refine JD 7 (fun h72=>?_) fun h72=>?_
       ·refine J 2 ?_
        first | refine ax.dN rfl (fun _=>?_) (fun hc=>absurd h72 hc) | refine ax.cond rfl (fun _=>?_) (fun hc=>by rw[h72] at hc;cases hc)
        refine J 2 ?_
        refine .c call121 rfl (qi hp ht hk) fun _ _=>?_
        refine J 2 ?_
        rw[show d.call=d.mutex from by unfold Dng.call;repeat (first | rw[if_neg (by omega)] | rw[if_pos (by omega)])]
        exact JR 0 ps
       ·refine JD 6 (fun h72=>?_) fun h72=>?_
        ·refine J 2 ?_
         first | refine ax.dN rfl (fun _=>?_) (fun hc=>absurd h72 hc) | refine ax.cond rfl (fun _=>?_) (fun hc=>by rw[h72] at hc;cases hc)
         refine J 2 ?_
         refine .c call121 rfl (qi hp ht hk) fun _ _=>?_
         refine J 2 ?_
         rw[show d.call=d.mutex from by unfold Dng.call;repeat (first | rw[if_neg (by omega)] | rw[if_pos (by omega)])]
         exact JR 0 ps
        ·refine JD 5 (fun h72c=>?_) fun h72c=>?_
         ·refine J 2 ?_
          refine .c call121 rfl (qi hp ht hk) fun _ _=>?_
          refine J 2 ?_
          rw[show d.call=d.mutex from by unfold Dng.call;repeat (first | rw[if_neg (by omega)] | rw[if_pos (by omega)])]
          exact JR 0 ps
         ·refine JD 7 (fun h78=>?_) fun h78=>?_
          ·refine J 2 ?_
           first | refine ax.dN rfl (fun _=>?_) (fun hc=>absurd h78 hc) | refine ax.cond rfl (fun _=>?_) (fun hc=>by rw[h78] at hc;cases hc)
           refine J 1 ?_
           refine .jq (C:=dt b ps (d).s) .auto rfl ?_
           rintro fv sv pv bt vm bg vt bk bw vr -
           refine .draw [arr bd 0 (eA b p d vw ve),arr b 0 (fM fv sv pv d.s.dK bt ps vm bg vt bk bw vr)] [1,1,1,1,1,1,1,1,1,1,1,1,1,1,1,1,1,1,1,1,1,1,1,3,1,1,1,1,1] rfl (by kernel_rfl) ?_
           refine J 12 ?_
           refine .p (.gy underlying38 underlying3 rfl (by omega)) ?_
           refine J 10 ?_
           refine .c call122 rfl (qM hk.gl hk.GR) fun u105 _=>?_
           refine J 1 ?_
           refine .p (.extract (v:=u105) rfl rfl) ?_
           refine .p (.extract (v:=.int .i64 (d.s.ag.signal d.i.n d.choice (decide (d.i.op=29))).2.1) rfl rfl) ?_
           refine J 13 ?_
           refine .c call117 rfl (cR (d:=(d.aZ (d.s.ag.signal d.i.n d.choice (decide (d.i.op=29))).2.2)) hp ht (Nat.le_trans hk.au (by decide)) gY hk.R.l) fun _ _=>?_
           have sigw:∀ w∈((d.aZ (d.s.ag.signal d.i.n d.choice (decide (d.i.op=29))).2.2).pass d.i.n 0 (d.s.ag.signal d.i.n d.choice (decide (d.i.op=29))).2.1).waits,d.s.ag.has w:=fun w h=>by
            obtain⟨x,hx,hw⟩:=List.mem_flatMap.1 h
            obtain⟨y,hy,rfl⟩:=List.mem_map.1 hw
            exact(kY hk.zB.1 hk.zB.2 x (List.mem_of_mem_take hx)).2 y hy
           refine J 5 ?_
           refine .c call123 rfl (vh (d:=((d.aZ (d.s.ag.signal d.i.n d.choice (decide (d.i.op=29))).2.2).pass d.i.n 0 (d.s.ag.signal d.i.n d.choice (decide (d.i.op=29))).2.1)) (l:=(d.s.ag.signal d.i.n d.choice (decide (d.i.op=29))).1) (fun w h=>⟨(hk.iH w (kX w h)).1,((hk.iH w (kX w h)).2.of (s':=(d.aZ (d.s.ag.signal d.i.n d.choice (decide (d.i.op=29))).2.2).s) rfl).pass (d:=(d.aZ (d.s.ag.signal d.i.n d.choice (decide (d.i.op=29))).2.2)) ht hk.R gY⟩) (fun w h=>⟨(hk.iH w (sigw w h)).1,((hk.iH w (sigw w h)).2.of (s':=(d.aZ (d.s.ag.signal d.i.n d.choice (decide (d.i.op=29))).2.2).s) rfl).pass (d:=(d.aZ (d.s.ag.signal d.i.n d.choice (decide (d.i.op=29))).2.2)) ht hk.R gY⟩) (by show d.s.dK.aB≤((d.s.ag.signal d.i.n d.choice (decide (d.i.op=29))).2.2.aF.length:Int);rw[jH];exact hk.GS) (by show((d.s.ag.signal d.i.n d.choice (decide (d.i.op=29))).2.2.aF.length)≤_;rw[jH];exact hk.gl.m) (fun x h=>(kY hk.zB.1 hk.zB.2 x h).1) (by have:=np (c:=d.i.n) (ch:=d.choice) (all:=decide (d.i.op=29)) hk.zB.2;have:=hk.ends;have:=hk.GP;exact⟨by show d.ends.length+_≤_;omega,by show d.out.aM.length+_≤_;omega⟩)) fun _ _=>?_
           refine J 2 ?_
           rw[show d.call=((d.aZ (d.s.ag.signal d.i.n d.choice (decide (d.i.op=29))).2.2).pass d.i.n 0 (d.s.ag.signal d.i.n d.choice (decide (d.i.op=29))).2.1).j8 (d.s.ag.signal d.i.n d.choice (decide (d.i.op=29))).1 from by unfold Dng.call;repeat (first | rw[if_neg (by omega)] | rw[if_pos (by omega)])]
           exact JR 0 ps
          ·refine JD 5 (fun h78=>?_) fun h78=>?_
           ·refine J 1 ?_
            refine .jq (C:=dt b ps (d).s) .auto rfl ?_
            rintro fv sv pv bt vm bg vt bk bw vr -
            refine .draw [arr bd 0 (eA b p d vw ve),arr b 0 (fM fv sv pv d.s.dK bt ps vm bg vt bk bw vr)] [1,1,1,1,1,1,1,1,1,1,1,1,1,1,1,1,1,1,1,1,1,1,1,3,1,1,1,1,1] rfl (by kernel_rfl) ?_
            refine J 12 ?_
            refine .p (.gy underlying38 underlying3 rfl (by omega)) ?_
            refine J 10 ?_
            refine .c call122 rfl (qM hk.gl hk.GR) fun u105 _=>?_
            refine J 1 ?_
            refine .p (.extract (v:=u105) rfl rfl) ?_
            refine .p (.extract (v:=.int .i64 (d.s.ag.signal d.i.n d.choice (decide (d.i.op=29))).2.1) rfl rfl) ?_
            refine J 13 ?_
            refine .c call117 rfl (cR (d:=(d.aZ (d.s.ag.signal d.i.n d.choice (decide (d.i.op=29))).2.2)) hp ht (Nat.le_trans hk.au (by decide)) gY hk.R.l) fun _ _=>?_
            have sigw:∀ w∈((d.aZ (d.s.ag.signal d.i.n d.choice (decide (d.i.op=29))).2.2).pass d.i.n 0 (d.s.ag.signal d.i.n d.choice (decide (d.i.op=29))).2.1).waits,d.s.ag.has w:=fun w h=>by
             obtain⟨x,hx,hw⟩:=List.mem_flatMap.1 h
             obtain⟨y,hy,rfl⟩:=List.mem_map.1 hw
             exact(kY hk.zB.1 hk.zB.2 x (List.mem_of_mem_take hx)).2 y hy
            refine J 5 ?_
            refine .c call123 rfl (vh (d:=((d.aZ (d.s.ag.signal d.i.n d.choice (decide (d.i.op=29))).2.2).pass d.i.n 0 (d.s.ag.signal d.i.n d.choice (decide (d.i.op=29))).2.1)) (l:=(d.s.ag.signal d.i.n d.choice (decide (d.i.op=29))).1) (fun w h=>⟨(hk.iH w (kX w h)).1,((hk.iH w (kX w h)).2.of (s':=(d.aZ (d.s.ag.signal d.i.n d.choice (decide (d.i.op=29))).2.2).s) rfl).pass (d:=(d.aZ (d.s.ag.signal d.i.n d.choice (decide (d.i.op=29))).2.2)) ht hk.R gY⟩) (fun w h=>⟨(hk.iH w (sigw w h)).1,((hk.iH w (sigw w h)).2.of (s':=(d.aZ (d.s.ag.signal d.i.n d.choice (decide (d.i.op=29))).2.2).s) rfl).pass (d:=(d.aZ (d.s.ag.signal d.i.n d.choice (decide (d.i.op=29))).2.2)) ht hk.R gY⟩) (by show d.s.dK.aB≤((d.s.ag.signal d.i.n d.choice (decide (d.i.op=29))).2.2.aF.length:Int);rw[jH];exact hk.GS) (by show((d.s.ag.signal d.i.n d.choice (decide (d.i.op=29))).2.2.aF.length)≤_;rw[jH];exact hk.gl.m) (fun x h=>(kY hk.zB.1 hk.zB.2 x h).1) (by have:=np (c:=d.i.n) (ch:=d.choice) (all:=decide (d.i.op=29)) hk.zB.2;have:=hk.ends;have:=hk.GP;exact⟨by show d.ends.length+_≤_;omega,by show d.out.aM.length+_≤_;omega⟩)) fun _ _=>?_
            refine J 2 ?_
            rw[show d.call=((d.aZ (d.s.ag.signal d.i.n d.choice (decide (d.i.op=29))).2.2).pass d.i.n 0 (d.s.ag.signal d.i.n d.choice (decide (d.i.op=29))).2.1).j8 (d.s.ag.signal d.i.n d.choice (decide (d.i.op=29))).1 from by unfold Dng.call;repeat (first | rw[if_neg (by omega)] | rw[if_pos (by omega)])]
            exact JR 0 ps
           ·refine JD 7 (fun h119=>?_) fun h119=>?_
            ·refine J 2 ?_
             first | refine ax.dN rfl (fun _=>?_) (fun hc=>absurd h119 hc) | refine ax.cond rfl (fun _=>?_) (fun hc=>by rw[h119] at hc;cases hc)
             refine J 2 ?_
             refine .c call124 rfl (BN hp ht hk) fun _ _=>?_
             refine J 2 ?_
             rw[show d.call=d.cf from by unfold Dng.call;repeat (first | rw[if_neg (by omega)] | rw[if_pos (by omega)])]
             exact JR 0 ps
            ·refine JD 5 (fun h119=>?_) fun h119=>?_
             ·refine J 2 ?_
              refine .c call124 rfl (BN hp ht hk) fun _ _=>?_
              refine J 2 ?_
              rw[show d.call=d.cf from by unfold Dng.call;repeat (first | rw[if_neg (by omega)] | rw[if_pos (by omega)])]
              exact JR 0 ps
             ·refine J 2 ?_
              refine .c call125 rfl (Au hp ht hk) fun _ _=>?_
              refine J 2 ?_
              rw[show d.call=d.kernel from by unfold Dng.call;repeat (first | rw[if_neg (by omega)] | rw[if_pos (by omega)])]
              exact JR 0 ps
end Go.SLYtefdijgllbkmfaaGreat
namespace Go.SLYtefdijgllbkmfaaGreat
open Go Go.RowKit Go.Proofs Go.Proofs.Tryz
attribute [local irreducible] ax aQ bu cj bQ Y
theorem Av{W:World}{fv c1 c2 c3 c4 c5 c6 c7:Value}{p:eZ}{f:iG}(hl:p.funcs.length≤1000000)(hl2:∀ g∈p.funcs,g.length≤256):Fn Tryz.prog W 71 [.agg #[fv,c1,c2,c3,c4,c5,c6,c7],.agg (iJ f).toArray] [xo fv p.funcs] Unit (fun _=>Ef (eE p f)) (fun _=>True) (fun _=>[xo fv p.funcs]) :=
 Fn.LJ fun fs hfs=>Ao (A:=seps [sl cn 1 fv fs,aT (fun x=>sl dI 5 x.1 x.2) fs]) (Rd.lE (Rd.sl .here)) (fun x hx=>Rd.lE (vL (f:=fun x:Value×List Ins=>x.1) (g:=fun x=>x.2) hx (.there .here))) hfs (by rw[← List.length_map (f:=(·.2)),hfs];exact hl) (fun x hx=>Nat.le_trans (hl2 _ (by rw[← hfs];exact List.mem_map_of_mem hx)) (by decide))
theorem Gb{W:World}{b:Nat}{s:Spc}{n choice:Int}(hO:fE s):Fn Tryz.prog W 40 [ptr b,.int .i64 n,.int .i64 choice] [cH b s] Value (fun u=>.tuple #[.agg (xH u (s.run n choice).1).toArray,.int .i64 (s.run n choice).2.1]) (fun _=>True) (fun u=>[sl aL 1 u (s.run n choice).1.aM,cH b (s.run n choice).2.2]):=by
 refine Fn.intro (N:=76) func40 rfl ntmps40 rfl fun F=>?_
 show ax _ _ _ _ _ _ [cH b s,F]
 refine .o1 (C:=cH b s) .auto rfl ?_
 rintro ps -
 refine .jq (C:=dt b ps s) .auto rfl ?_
 rintro fv sv pv bt vm bg vt bk bw vr -
 refine .fb (fun w st=>st.fact .auto iO) fun hs=>?_
 refine J 2 ?_
 refine .aw rfl (af.alloc rfl zeroValue93 rfl) ?_
 rintro _ _ ⟨b6,rfl,rfl⟩
 refine J 7 ?_
 refine .c call70 rfl BK fun _ _=>?_
 refine JD 12 (fun h15=>?_) fun h15=>?_
 ·have hap:zz ps n=none:=by
   cases hh:zz ps n with
   | none=>rfl
   | some p=>rw[hh] at h15;cases h15
  refine J 2 ?_
  refine .p (.qO ([(.slice none 0 0),(.bool false),(.bool false),(.bool false)]) (by kernel_rfl)) ?_
  refine J 7 ?_
  rw[ss (Ip hs hap hO.lt)]
  refine .gT rfl rfl isAgg93 (by exact sizeOf93) Cells.a rfl fun w s=>⟨(.slice none 0 0),?_,trivial,ar .auto s⟩
  rfl
 ·obtain⟨p,hap⟩:∃ p,zz ps n=some p:=by
   cases hh:zz ps n with
   | none=>rw[hh] at h15;cases h15
   | some p=>exact⟨p,rfl⟩
  rw[hap]
  obtain⟨k,t,rfl,hk16,hp,ht,hat⟩:=EA hs hap hO.lt
  have hR:=(hO.R k t ht).1
  have hpc:=(hO.R k t ht).2
  refine J 2 ?_
  refine .jq (C:=dt b ps s) .auto rfl ?_
  rintro fv sv pv bt vm bg vt bk bw vr -
  refine .fr .auto (cq hp ht) ?_
  refine JD 8 (fun h19=>?_) fun h19=>?_
  ·refine J 2 ?_
   refine .p (.qO ([(.slice none 0 0),(.bool false),(.bool false),(.bool false)]) (by kernel_rfl)) ?_
   refine J 7 ?_
   refine .to (A:=aE ps s.thr) (Bs:=[arr p 0 (bz t),aE (ps.set k none) (s.thr.set k none)]) .auto (cz hp ht) ?_
   rw[su hat h19]
   refine .gT rfl rfl isAgg93 (by exact sizeOf93) Cells.a rfl fun w s=>⟨(.slice none 0 0),?_,trivial,ar .auto s⟩
   rfl
  ·have hw0:t.why=0:=Decidable.not_not.mp h19
   refine J 4 ?_
   refine .xj [arr b 0 (fM fv sv pv s.dK bt ps vm bg vt bk bw vr),arr p 0 (bz t)] [0,0,0,0,0,0,0,0,2,0,0,0,4,2,0] [0,1,2,3,4,5,6,7,8,9,10,11,12,13,14] rfl (by kernel_rfl) ?_
   refine bQ.q rfl rfl rfl Kept.auto (Y.m rfl) ?_
   refine bQ.q rfl rfl rfl Kept.auto (Y.n rfl) ?_
   refine bQ.q rfl rfl rfl Kept.auto (Y.iU 25 underlying126 rfl sizeOf25 rfl) ?_
   refine bQ.q rfl rfl rfl Kept.auto (Y.Gl isAgg25 rfl (Cells.jA (ds:=EB fv sv pv s.dK) (Cells.a (cs:=fM fv sv pv s.dK bt ps vm bg vt bk bw vr)) rfl) (by exact sizeOf25)) ?_
   refine bQ.q rfl rfl rfl Kept.auto (Y.m rfl) ?_
   refine bQ.q rfl rfl rfl Kept.auto (Y.n rfl) ?_
   refine bQ.q rfl rfl rfl Kept.auto (Y.iU 145 underlying147 rfl sizeOf145 rfl) ?_
   refine bQ.q rfl rfl rfl Kept.auto (Y.Gl isAgg145 rfl (Cells.jA (ds:=iJ t.hZ) (Cells.a (cs:=bz t)) rfl) (by exact sizeOf145)) ?_
   refine bQ.eO rfl (.inl rfl) rfl (fun _=>Kept.auto) call71 rfl (Av (p:=s.dK) (f:=t.hZ) hO.EC.1 hO.EC.2) .auto (fun _ _=>Kept.auto) ?_
   rintro⟨⟩ -
   refine bQ.q rfl rfl rfl Kept.auto (Y.m rfl) ?_
   refine bQ.q rfl rfl rfl Kept.auto (Y.extract (v:=.agg (dI ((eE s.dK t.hZ).getD Ins.z)).toArray) rfl rfl) ?_
   refine bQ.q rfl rfl rfl Kept.auto (Y.extract (v:=.bool (eE s.dK t.hZ).isSome) rfl rfl) ?_
   refine bQ.fresh rfl rfl rfl (by decide) Kept.auto (qu zeroValue131 rfl) ?_
   rintro b9
   refine bQ.KG rfl rfl (by exact sizeOf131) rfl rfl rfl (by rfl) Kept.auto Kept.auto ?_
   refine bQ.q rfl rfl rfl Kept.auto (Y.a rfl) ?_
   refine bQ.nil ?_
   refine J 8 ?_
   refine .p (.Lw (fun _ _ _ _ _=>eA b p (s.dM k ((eE s.dK t.hZ).getD Ins.z) choice) (.slice none 0 0) (.slice none 0 0)) rfl rfl rfl rfl rfl (by kernel_rfl)) ?_
   refine .aw rfl (af.box rfl rfl rfl) ?_
   rintro _ _ ⟨b44,rfl,rfl⟩
   refine JD 12 (fun h56=>?_) fun h56=>?_
   ·have hn:(eE s.dK t.hZ)=none:=Option.isNone_iff_eq_none.mp (by simpa using h56)
    refine J 3 ?_
    refine .p (.jt (fun v1=>[v1,(.int .i64 0),(.int .i64 0),(.int .i64 0),(.int .u64 0)]) rfl (by kernel_rfl)) ?_
    refine J 2 ?_
    refine .aw rfl (af.Kj (vs:=dI ⟨23,0,0,0,0⟩) (by exact sizeOf131) rfl rfl rfl rfl) ?_
    rintro _ _ ⟨rfl,rfl⟩
    rw[show setFrom (eA b p (s.dM k ((eE s.dK t.hZ).getD Ins.z) choice) (.slice none 0 0) (.slice none 0 0)) 3 (dI ⟨23,0,0,0,0⟩)=eA b p (s.dM k ⟨23,0,0,0,0⟩ choice) (.slice none 0 0) (.slice none 0 0) from rfl]
    refine J 5 ?_
    refine .to (A:=aE ps s.thr) (Bs:=[arr p 0 (bz t),aE (ps.set k none) (s.thr.set k none)]) .auto (cz hp ht) ?_
    refine .c call82 rfl (jo (d:=(s.dM k ⟨23,0,0,0,0⟩ choice)) hp ht (Nat.le_trans hO.au (by decide))) fun _ _=>?_
    refine J 4 ?_
    refine .c call83 rfl (rk (d:=(s.dM k ⟨23,0,0,0,0⟩ choice).tell 0 0 0 true) hp ht hO.lt (hs.1.trans hO.lt) hO.T hR (Nat.zero_le _) (Nat.zero_le _) (hO.Io hs ht hw0)) fun qs _=>?_
    refine J 6 ?_
    refine .c call86 rfl (nE (d:=(((s.dM k ⟨23,0,0,0,0⟩ choice).tell 0 0 0 true).fin 0)) (Nat.le_trans (gB.trans ko).1 (by have:=hO.au;show s.au.length+_≤_;omega)) (Nat.le_trans (gB.trans ko).2 (by show 0+_≤_;decide))) fun u75 _=>?_
    refine .aw rfl (af.Eo (vs:=[.bool (((s.dM k ⟨23,0,0,0,0⟩ choice).tell 0 0 0 true).fin 0).finish.1.bE,.bool (((s.dM k ⟨23,0,0,0,0⟩ choice).tell 0 0 0 true).fin 0).finish.1.ended,.bool (((s.dM k ⟨23,0,0,0,0⟩ choice).tell 0 0 0 true).fin 0).finish.1.yielded]) (by exact sizeOf93) rfl rfl rfl rfl) ?_
    rintro _ _ ⟨rfl,rfl⟩
    refine J 4 ?_
    rw[wa hat h19 hn rfl]
    refine .gT rfl rfl isAgg93 (by exact sizeOf93) Cells.a rfl fun w s=>⟨u75,?_,trivial,ar .auto s⟩
    rfl
   ·obtain⟨i,hn⟩:∃ i,(eE s.dK t.hZ)=some i:=Option.isSome_iff_exists.mp (by simpa using h56)
    rw[show((eE s.dK t.hZ).getD Ins.z)=i from by rw[hn];rfl]
    obtain⟨hI,hIn,hIt⟩:=kn hO hn
    refine J 4 ?_
    refine .c call72 rfl nB fun _ _=>?_
    refine JD 4 (fun h67=>?_) fun h67=>?_
    ·refine J 2 ?_
     refine .to (A:=aE ps s.thr) (Bs:=[arr p 0 (bz t),aE (ps.set k none) (s.thr.set k none)]) .auto (cz hp ht) ?_
     refine .c call84 rfl (C6 (d:=(s.dM k i choice)) hp ht hI (hR.hZ hpc) h67 hO.mem (Nat.le_trans hO.au (by decide)) hO.lt (hs.1.trans hO.lt) hO.T hR (Nat.zero_le _) (Nat.zero_le _) (hO.Io hs ht hw0)) fun qs _=>?_
     refine J 6 ?_
     refine .c call86 rfl (nE (d:=(s.dM k i choice).plain) (Nat.le_trans (nq).1 (by have:=hO.au;show s.au.length+_≤_;omega)) (Nat.le_trans (nq).2 (by show 0+_≤_;decide))) fun u75 _=>?_
     refine .aw rfl (af.Eo (vs:=[.bool (s.dM k i choice).plain.finish.1.bE,.bool (s.dM k i choice).plain.finish.1.ended,.bool (s.dM k i choice).plain.finish.1.yielded]) (by exact sizeOf93) rfl rfl rfl rfl) ?_
     rintro _ _ ⟨rfl,rfl⟩
     refine J 4 ?_
     rw[pQ hat h19 hn h67 rfl]
     refine .gT rfl rfl isAgg93 (by exact sizeOf93) Cells.a rfl fun w s=>⟨u75,?_,trivial,ar .auto s⟩
     rfl
    ·refine J 7 ?_
     refine .p (.add rfl rfl (by omega)) ?_
     refine J 4 ?_
     rw[Jf]
     refine J 4 ?_
     refine .to (A:=aE ps (s.thr.set k (some ({t with pc:=t.pc+1 })))) (Bs:=[arr p 0 (bz ({t with pc:=t.pc+1 })),aE (ps.set k none) (s.thr.set k none)]) .auto (cY (List.getElem?_eq_some_iff.1 ht).1 hp) ?_
     refine .c call85 rfl (Ga (d:=((s.dM k i choice).aj {t with pc:=t.pc+1 })) hp (bW ht) (hO.call hs ht hw0 hI (hIn h67) hIt)) fun qs _=>?_
     refine J 6 ?_
     refine .c call86 rfl (nE (d:=((s.dM k i choice).aj {t with pc:=t.pc+1 }).call) (Nat.le_trans (pR hO.zB.2).1 (by have:=hO.au;show s.au.length+_≤_;omega)) (Nat.le_trans (pR hO.zB.2).2 (by show 0+_≤_;decide))) fun u75 _=>?_
     refine .aw rfl (af.Eo (vs:=[.bool ((s.dM k i choice).aj {t with pc:=t.pc+1 }).call.finish.1.bE,.bool ((s.dM k i choice).aj {t with pc:=t.pc+1 }).call.finish.1.ended,.bool ((s.dM k i choice).aj {t with pc:=t.pc+1 }).call.finish.1.yielded]) (by exact sizeOf93) rfl rfl rfl rfl) ?_
     rintro _ _ ⟨rfl,rfl⟩
     refine J 4 ?_
     rw[sz hat h19 hn h67 rfl]
     refine .gT rfl rfl isAgg93 (by exact sizeOf93) Cells.a rfl fun w s=>⟨u75,?_,trivial,ar .auto s⟩
     rfl
end Go.SLYtefdijgllbkmfaaGreat
namespace Go.SLYtefdijgllbkmfaaGreat
open Go Go.RowKit Go.Proofs Go.Proofs.Tryz
attribute [local irreducible] ax aQ bu cj bQ Y
theorem yQ{W:World}  : Fn Tryz.prog W 19 [.pointer none] [] Unit (fun _=>(.slice none 0 0)) (fun _=>True) (fun _=>[]):=by
 refine Fn.intro (N:=31) func19 rfl ntmps19 rfl fun F=>?_
 show ax _ _ _ _ _ _ [F]
 refine J 12 ?_
 refine .gK rfl ?_
 exact JR 7 ()
theorem tM{W:World}  : Fn Tryz.prog W 22 [.pointer none] [] Unit (fun _=>(.slice none 0 0)) (fun _=>True) (fun _=>[]):=by
 refine Fn.intro (N:=11) func22 rfl ntmps22 rfl fun F=>?_
 show ax _ _ _ _ _ _ [F]
 refine J 12 ?_
 refine .gK rfl ?_
 exact JR 7 ()
theorem wV{W:World}  : Fn Tryz.prog W 24 [.pointer none] [] Unit (fun _=>(.slice none 0 0)) (fun _=>True) (fun _=>[]):=by
 refine Fn.intro (N:=11) func24 rfl ntmps24 rfl fun F=>?_
 show ax _ _ _ _ _ _ [F]
 refine J 12 ?_
 refine .gK rfl ?_
 exact JR 7 ()
theorem vi{W:World}{b p:Nat}{ps:List (Option Nat)}{pr:eZ}{n:Nat}{t:bo}{fv sv pv:Value}{bt:Nat}{vm:Value}{bg:Nat}{vt:Value}{bk bw:Nat}{vr:Value}(hp:ps[n]?=some (some p))(hn16:n<16)(hR:gR t){y:Int}:Fn Tryz.prog W 93 [ptr b,.int .i64 (n:Int),.int .u64 y] [arr b 0 (fM fv sv pv pr bt ps vm bg vt bk bw vr),arr p 0 (bz t)] Unit (fun _=>.agg (dr (t.dL y)).toArray) (fun _=>True) (fun _=>[arr b 0 (fM fv sv pv pr bt ps vm bg vt bk bw vr),arr p 0 (bz (t.cV y))]):=by
 refine Fn.intro (N:=50) func93 rfl ntmps93 rfl fun F=>?_
 show ax _ _ _ _ _ _ [arr b 0 (fM fv sv pv pr bt ps vm bg vt bk bw vr),arr p 0 (bz t),F]
 have hRl:=hR.l
 have hRi:=hR.i
 refine J 2 ?_
 refine .aw rfl (af.alloc rfl zeroValue101 rfl) ?_
 rintro _ _ ⟨b6,rfl,rfl⟩
 refine J 8 ?_
 refine .p (.aD n underlying123 sizeOf122 rfl rfl rfl hn16) ?_
 refine .p (.ld rfl (Cell.a (by rw[Nat.mul_one,eQ hn16,eL hp]))) ?_
 refine J 3 ?_
 refine .nJ (X:=Unit) [2,14,15,16,17,18,19,20,21,22,23,24,25,26,27,28] (fun _=>True) (fun _=>[(2,some (.int .u64 (if t.into = -1 then 0 else y)))]) (fun _=>[arr p 0 (bz (if t.into = -1 then t else t.put t.into y)),arr b6 0 [.int .u64 0,.int .i64 0,.int .u64 0,.int .u64 0,.int .i64 0,.bool false],arr b 0 (fM fv sv pv pr bt ps vm bg vt bk bw vr),F]) ?_ ?_
 ·refine JD 9 (fun h18=>?_) fun h18=>?_
  ·refine .draw [arr p 0 (bz t)] [1,1,1,1,1,1,1,1,1,1,3] rfl (by kernel_rfl) ?_
   refine J 9 ?_
   refine .p (.aD t.into.toNat underlying39 sizeOf38 rfl rfl (by omega) (by omega)) ?_
   refine .d3 rfl (af.st sizeOf38 rfl rfl rfl (Nat.blt_eq.mpr (by show 2+t.into.toNat * 1<18;omega))) ?_
   rintro _ _ ⟨rfl,rfl⟩
   rw[jc y (by omega) (by omega) hRl]
   refine J 1 ?_
   refine .eY () .auto ?_ ?_ ?_
   ·trivial
   ·rw[if_neg (by omega)];exact⟨rfl,trivial⟩
   ·rw[if_neg (by omega)];exact fun w s=>aK.kept .auto w s
  ·refine J 3 ?_
   refine .eY () .auto ?_ ?_ ?_
   ·trivial
   ·rw[if_pos (by omega)];exact⟨rfl,trivial⟩
   ·rw[if_pos (by omega)];exact fun w s=>aK.kept .auto w s
 ·rintro⟨⟩ -
  obtain⟨y1,hy1⟩:∃ y1,y1=(if t.into = -1 then 0 else y):=⟨_,rfl⟩
  obtain⟨t1,h1⟩:∃ t1,t1=(if t.into = -1 then t else t.put t.into y):=⟨_,rfl⟩
  have h1l:t1.aq.length=8:=by
   rw[h1]
   split
   ·exact hRl
   ·rw[jF];exact hRl
  have h1h:t1.handle=t.handle∧t1.op=t.op:=by
   rw[h1]
   split <;> exact⟨rfl,rfl⟩
  rw[← hy1, ← h1]
  refine J 6 ?_
  refine .p (.aD 7 underlying39 sizeOf38 rfl rfl (by omega) (by omega)) ?_
  refine J 1 ?_
  rw[q3 (n:=7) 0 (by decide) h1l]
  refine J 9 ?_
  rw[ov]
  refine J 3 ?_
  rw[se]
  refine J 3 ?_
  refine .draw [arr p 0 (bz {t1.put 7 0 with why:=0,into := -1 })] [1,1,1,1,1,1,1,1,1,1,3] rfl (by kernel_rfl) ?_
  refine J 9 ?_
  refine .p (.BS (fun v1 v2 v3 v4=>[v1,v2,(.int .u64 0),v3,(.int .i64 0),v4]) rfl rfl rfl rfl (by kernel_rfl)) ?_
  refine .d3 rfl (af.tP (by exact sizeOf101) rfl rfl rfl (by rfl)) ?_
  rintro _ _ ⟨rfl,rfl⟩
  refine J 3 ?_
  rw[AZ t1 h1]
  refine .fw rfl rfl isAgg101 (by exact sizeOf101) Cells.a fun w s=>⟨(),?_,trivial,ar .auto s⟩
  show Ending.returned (Value.agg #[.int .u64 t1.handle,.int .i64 t1.op,.int .u64 0,.int .u64 y1,.int .i64 0,.bool true])=_;rw[h1h.1,h1h.2,hy1];rfl
theorem Df{W:World}{b:Nat}{s:Spc}{k:Int}(hO:fE s):Fn Tryz.prog W 42 [ptr b,.int .i64 k] [cH b s] Value (fun u=>.tuple #[.agg (xH u (s.done k).1).toArray,.int .i64 (s.done k).2.1]) (fun _=>True) (fun u=>[sl aL 1 u (s.done k).1.aM,cH b (s.done k).2.2]):=by
 refine Fn.intro (N:=43) func42 rfl ntmps42 rfl fun F=>?_
 show ax _ _ _ _ _ _ [cH b s,F]
 refine .o1 (C:=cH b s) .auto rfl ?_
 rintro ps -
 refine .jq (C:=dt b ps s) .auto rfl ?_
 rintro fv sv pv bt vm bg vt bk bw vr -
 refine .fb (fun w st=>st.fact .auto iO) fun hs=>?_
 refine J 2 ?_
 refine .aw rfl (af.alloc rfl zeroValue93 rfl) ?_
 rintro _ _ ⟨b4,rfl,rfl⟩
 refine J 10 ?_
 refine .jY rfl ?_
 refine J 9 ?_
 refine .c call92 rfl (Dc hO.dw hO.db) fun _ _=>?_
 refine J 1 ?_
 refine .p (.extract (v:=.agg (ec (s.aO.done k).1).toArray) rfl rfl) ?_
 refine .p (.extract (v:=.int .u64 (s.aO.done k).2.1) rfl rfl) ?_
 refine .p (.extract (v:=.bool (s.aO.done k).2.2.1) rfl rfl) ?_
 refine .aw rfl (af.alloc rfl zeroValue170 rfl) ?_
 rintro _ _ ⟨b6,rfl,rfl⟩
 refine JD 12 (fun h23=>?_) fun h23=>?_
 ·refine J 2 ?_
  refine .p (.qO ([(.slice none 0 0),(.bool false),(.bool false),(.bool false)]) (by kernel_rfl)) ?_
  refine J 6 ?_
  rw[lZ (by simpa using h23)]
  rw[Cn (by simpa using h23)]
  refine .gT rfl rfl isAgg93 (by exact sizeOf93) Cells.a rfl fun w s=>⟨(.slice none 0 0),?_,trivial,ar .auto s⟩
  rfl
 ·have hd1:(s.aO.done k).2.2.1=true:=by simpa using h23
  obtain⟨hdm, -⟩:=EH hd1
  obtain⟨hw0,t,ht⟩:=hO.KH _ hdm
  obtain⟨hn16,q,t2,hq,ht2,hR⟩:=hO.live hs ht
  have e2:=Option.some.inj (ht.symm.trans ht2)
  obtain rfl:=Option.some.inj e2
  obtain⟨m,hm⟩:∃ m:Nat,(s.aO.done k).1.who.toNat=m:=⟨_,rfl⟩
  rw[hm] at ht hn16 hq
  have hmc:(s.aO.done k).1.who=(m:Int):=by omega
  refine J 3 ?_
  refine .fr .auto (cq hq ht) ?_
  refine .draw [arr b6 0 (ec (s.aO.done k).1),arr b 0 (fM fv sv pv s.dK bt ps vm bg vt bk bw vr)] [0,0,0,0,0,1,1,1,1,2,2,2,1,1,3] rfl (by kernel_rfl) ?_
  refine J 8 ?_
  rw[hmc]
  refine J 1 ?_
  refine .c2 call93 rfl (vi hq hn16 hR) fun _ _=>?_
  refine .d2 rfl Kept.auto (af.gQ 101 rfl rfl (by kernel_rfl)) (by rintro _ _ ⟨b35,rfl,rfl⟩;exact Kept.auto) ?_
  rintro _ _ ⟨b35,rfl,rfl⟩
  refine .d2 rfl Kept.auto (af.fi (enc:=dr) (k:=6) (t.dL (s.aO.done k).2.1) rfl underlying49 underlying49 typeInfo101 rfl rfl rfl (by decide) rfl rfl rfl .auto rfl .auto (by have:=hO.au;omega) rfl) (by rintro _ _ ⟨v36,rfl,rfl⟩;exact Kept.auto) ?_
  rintro _ _ ⟨v36,rfl,rfl⟩
  refine J 2 ?_
  refine .d3 rfl (af.pz sizeOf49 rfl rfl rfl) ?_
  rintro _ _ ⟨rfl,rfl⟩
  rw[ox]
  refine J 6 ?_
  rw[hmc]
  refine .aw rfl (af.gQ 3 rfl rfl (by kernel_rfl)) ?_
  rintro _ _ ⟨b41,rfl,rfl⟩
  refine .p (.jt (fun v1=>[v1,.bool false,.bool false,.bool false]) rfl (by kernel_rfl)) ?_
  refine .aw rfl (af.tP (vs:=[.slice (some ⟨b41,0,none⟩) 1 1,.bool false,.bool false,.bool false]) (by exact sizeOf93) rfl rfl rfl (by rfl)) ?_
  rintro _ _ ⟨rfl,rfl⟩
  refine .to (A:=sl aL 1 (.slice (some ⟨b41,0,none⟩) 1 1) [(m:Int)]) (Bs:=[arr b41 0 [.int .i64 (m:Int)]]) .auto Jg ?_
  refine J 4 ?_
  refine .to (A:=aE ps (s.thr.set m (some (t.cV (s.aO.done k).2.1)))) (Bs:=[arr q 0 (bz (t.cV (s.aO.done k).2.1)),aE (ps.set m none) (s.thr.set m none)]) .auto (cY (List.getElem?_eq_some_iff.1 ht).1 hq) ?_
  rw[l1 hd1 (by rw[hm];exact ht),hm,hmc,show(({s with aO:=(s.aO.done k).2.2.2 }:Spc).dn m (s.aO.done k).2.1)=({s with aO:=(s.aO.done k).2.2.2 }:Spc).aj m (t.cV (s.aO.done k).2.1) from by unfold Spc.dn;rw[cW (s:=({s with aO:=(s.aO.done k).2.2.2 }:Spc)) ht]]
  refine .gT rfl rfl isAgg93 (by exact sizeOf93) Cells.a rfl fun w s=>⟨(.slice (some ⟨b41,0,none⟩) 1 1),?_,trivial,ar .auto s⟩
  rfl
theorem Dg{W:World}{b:Nat}{s:Spc}{n:Int}(hO:fE s):Fn Tryz.prog W 14 [ptr b,.int .i64 n] [cH b s] Unit (fun _=>.tuple #[.agg (mS ((s.at n).getD EG)).toArray,.bool (s.at n).isSome]) (fun _=>True) (fun _=>[cH b s]):=by
 refine Fn.intro (N:=41) func14 rfl ntmps14 rfl fun F=>?_
 show ax _ _ _ _ _ _ [cH b s,F]
 refine .o1 (C:=cH b s) .auto rfl ?_
 rintro ps -
 refine .jq (C:=dt b ps s) .auto rfl ?_
 rintro fv sv pv bt vm bg vt bk bw vr -
 refine .fb (fun w st=>st.fact .auto iO) fun hs=>?_
 refine J 2 ?_
 refine .aw rfl (af.alloc rfl zeroValue41 rfl) ?_
 rintro _ _ ⟨b4,rfl,rfl⟩
 refine J 7 ?_
 refine .c call70 rfl BK fun _ _=>?_
 refine JD 10 (fun h11=>?_) fun h11=>?_
 ·have hap:zz ps n=none:=by
   cases hh:zz ps n with
   | none=>rfl
   | some p=>rw[hh] at h11;cases h11
  refine J 2 ?_
  refine .p (.qO ([(.int .u64 0),(.int .i64 0),(.int .i64 0),(.int .i64 0),(.int .u64 0),(.int .u64 0),(.int .u64 0),(.int .u64 0),(.int .u64 0),(.int .u64 0),(.int .u64 0),(.int .u64 0),(.int .u64 0)]) (by kernel_rfl)) ?_
  refine J 6 ?_
  rw[Ip hs hap hO.lt]
  refine .gT rfl rfl isAgg41 (by exact sizeOf41) Cells.a rfl fun w s=>⟨(),?_,trivial,ar .auto s⟩
  rfl
 ·obtain⟨p,hap⟩:∃ p,zz ps n=some p:=by
   cases hh:zz ps n with
   | none=>rw[hh] at h11;cases h11
   | some p=>exact⟨p,rfl⟩
  rw[hap]
  obtain⟨k,t,rfl,hk16,hp,ht,hat⟩:=EA hs hap hO.lt
  refine .jq (C:=dt b ps s) .auto rfl ?_
  rintro fv sv pv bt vm bg vt bk bw vr -
  refine .fr .auto (cq hp ht) ?_
  refine J 3 ?_
  refine .draw [arr p 0 (bz t)] [1,1,1,1,1,1,1,1,1,1,1,1,1,1,1,1,1,1,1,1,1,1,1,1,1,1,1,1,3,1] rfl (by kernel_rfl) ?_
  refine J 22 ?_
  refine .p (.la rfl (Cells.jA (ds:=[.int .u64 (t.aq.getD 0 0),.int .u64 (t.aq.getD 1 0),.int .u64 (t.aq.getD 2 0),.int .u64 (t.aq.getD 3 0),.int .u64 (t.aq.getD 4 0),.int .u64 (t.aq.getD 5 0),.int .u64 (t.aq.getD 6 0),.int .u64 (t.aq.getD 7 0)]) (Cells.a (cs:=bz t)) rfl)) ?_
  refine J 4 ?_
  refine .p (.DI (fun _ _ _ _ _ _=>mS t) rfl rfl rfl rfl rfl rfl (by kernel_rfl)) ?_
  refine .d3 rfl (af.tP (by exact sizeOf41) rfl rfl rfl (by rfl)) ?_
  rintro _ _ ⟨rfl,rfl⟩
  refine J 4 ?_
  refine .to (A:=aE ps s.thr) (Bs:=[arr p 0 (bz t),aE (ps.set k none) (s.thr.set k none)]) .auto (cz hp ht) ?_
  rw[hat]
  refine .gT rfl rfl isAgg41 (by exact sizeOf41) Cells.a rfl fun w s=>⟨(),?_,trivial,ar .auto s⟩
  rfl
end Go.SLYtefdijgllbkmfaaGreat
namespace Go.SLYtefdijgllbkmfaaGreat
open Go Go.RowKit Go.Proofs Go.Proofs.Tryz
attribute [local irreducible] ax aQ bu cj bQ Y
theorem Dh{W:World}{b:Nat}{s:Spc}(hO:fE s):Fn Tryz.prog W 44 [ptr b] [cH b s] Value (fun u=>.agg (xH u s.tick.1).toArray) (fun _=>True) (fun u=>[sl aL 1 u s.aA.due,cH b s.tick.2]):=by
 refine Fn.intro (N:=35) func44 rfl ntmps44 rfl fun F=>?_
 show ax _ _ _ _ _ _ [cH b s,F]
 refine .o1 (C:=cH b s) .auto rfl ?_
 rintro ps -
 refine .jq (C:=dt b ps s) .auto rfl ?_
 rintro fv sv pv bt vm bg vt bk bw vr -
 refine .fb (fun w st=>st.fact .auto iO) fun hs=>?_
 have hdl:=Nat.le_trans (xO s.aA) hO.wl
 have hrl:=hO.au
 refine J 2 ?_
 refine .aw rfl (af.alloc rfl zeroValue93 rfl) ?_
 rintro _ _ ⟨b2,rfl,rfl⟩
 refine J 9 ?_
 refine .jY rfl ?_
 refine J 8 ?_
 refine .c call96 rfl (Aq hO.wn hO.wl) fun u13 _=>?_
 refine J 12 ?_
 refine .cM (X:=Nat) [5,16,17,18,19,20,21,22,23,24,25,26,27,28,29,30,31,32] (fun k=>s.aA.due.length-k) (fun k=>k≤s.aA.due.length) (fun k=>[(16,some (.int .i64 (k:Int)))]) (fun k=>[dt b ps (di ({s with aA:=s.aA.tick.2 }:Spc) (s.aA.due.take k)),sl aL 1 u13 s.aA.due,arr b2 0 [.slice none 0 0,.bool false,.bool false,.bool false],F]) 0 ?_ ?_ ?_ ?_
 ·exact Nat.zero_le _
 ·exact⟨rfl,trivial⟩
 ·exact fun w s=>aK.kept .auto w s
 rintro k hk
 refine JD 6 (fun h17=>?_) fun h17=>?_
 ·refine J 7 ?_
  obtain⟨x,hx⟩:=ay (show k<s.aA.due.length by omega)
  have hdl2:∀ x∈s.aA.due,0≤x∧bZ ps s x.toNat:=fun x hx=>by
   obtain⟨y,hy,e⟩:=A6 hx
   obtain⟨h0,u,hu⟩:=hO.KI y hy
   rw[e] at h0 hu
   exact⟨h0,hO.live hs hu⟩
  obtain⟨hx0,hxl⟩:=hdl2 x (List.mem_of_getElem? hx)
  obtain⟨hn16,q,t,hq,ht,hR⟩:=we x.toNat (s.aA.due.take k) ({s with aA:=s.aA.tick.2 }:Spc) (hxl.of rfl) (fun z hz=>(hdl2 z (List.mem_of_mem_take hz)).2.of rfl)
  have hwr:=oD ({s with aA:=s.aA.tick.2 }:Spc) (s.aA.due.take k)
  rw[List.length_take] at hwr
  simp only at hwr
  have hxc:x=((x.toNat:Nat):Int):=by omega
  refine J 4 ?_
  refine .jq (C:=dt b ps (di ({s with aA:=s.aA.tick.2 }:Spc) (s.aA.due.take k))) .auto rfl ?_
  rintro fv sv pv bt vm bg vt bk bw vr -
  refine .fr .auto (cq hq ht) ?_
  refine .draw [arr b 0 (fM fv sv pv (di ({s with aA:=s.aA.tick.2 }:Spc) (s.aA.due.take k)).dK bt ps vm bg vt bk bw vr)] [0,0,0,0,0,1,1,2,2,2,1,1,3] rfl (by kernel_rfl) ?_
  rw[hxc]
  refine J 7 ?_
  refine .c2 call93 rfl (vi (n:=x.toNat) hq hn16 hR) fun _ _=>?_
  refine .d2 rfl Kept.auto (af.gQ 101 rfl rfl (by kernel_rfl)) (by rintro _ _ ⟨b28,rfl,rfl⟩;exact Kept.auto) ?_
  rintro _ _ ⟨b28,rfl,rfl⟩
  refine .d2 rfl Kept.auto (af.fi (enc:=dr) (k:=6) (t.dL 0) rfl underlying49 underlying49 typeInfo101 rfl rfl rfl (by decide) rfl rfl rfl .auto rfl .auto (by have e:(di ({s with aA:=s.aA.tick.2 }:Spc) (s.aA.due.take k)).au.length=s.au.length+min k s.aA.due.length:=hwr;omega) rfl) (by rintro _ _ ⟨v29,rfl,rfl⟩;exact Kept.auto) ?_
  rintro _ _ ⟨v29,rfl,rfl⟩
  refine J 2 ?_
  refine .d3 rfl (af.pz sizeOf49 rfl rfl rfl) ?_
  rintro _ _ ⟨rfl,rfl⟩
  rw[ox]
  refine .to (A:=aE ps ((di ({s with aA:=s.aA.tick.2 }:Spc) (s.aA.due.take k)).thr.set x.toNat (some (t.cV 0)))) (Bs:=[arr q 0 (bz (t.cV 0)),aE (ps.set x.toNat none) ((di ({s with aA:=s.aA.tick.2 }:Spc) (s.aA.due.take k)).thr.set x.toNat none)]) .auto (cY (List.getElem?_eq_some_iff.1 ht).1 hq) ?_
  refine J 7 ?_
  refine .bf (k+1) .auto rfl ?_ ?_ ?_ ?_
  ·omega
  ·show k+1≤_;omega
  ·exact⟨rfl,trivial⟩
  ·rw[cy hx,wc,show(di ({s with aA:=s.aA.tick.2 }:Spc) (s.aA.due.take k)).dn x.toNat 0=(di ({s with aA:=s.aA.tick.2 }:Spc) (s.aA.due.take k)).aj x.toNat (t.cV 0) from by unfold Spc.dn;rw[cW ht],cW ht];exact fun w s=>aK.kept .auto w s
 ·refine J 7 ?_
  refine .fb (fun w st=>(Rd.s (v:=u13) (enc:=aL) (k:=1) (xs:=s.aA.due) w st).1) fun hr=>?_
  obtain⟨a13,c13,rfl, -, -⟩:=hr
  refine J 1 ?_
  refine .p (.jt (fun v1=>[v1,(.bool false),(.bool false),(.bool false)]) rfl (by kernel_rfl)) ?_
  refine .aw rfl (af.tP (vs:=[.slice a13 s.aA.due.length c13,.bool false,.bool false,.bool false]) (by exact sizeOf93) rfl rfl rfl (by rfl)) ?_
  rintro _ _ ⟨rfl,rfl⟩
  refine J 3 ?_
  have hkk:k=s.aA.due.length:=by omega
  rw[hkk,List.take_length]
  refine .fw rfl rfl isAgg93 (by exact sizeOf93) Cells.a fun w s=>⟨_,?_,trivial,ar .auto s⟩
  rfl
theorem wW{W:World}{b:Nat}{s:Spc}(hl:s.au.length≤1000000000):Fn Tryz.prog W 22 [ptr b] [cH b s] Value (fun u=>u) (fun _=>True) (fun u=>[sl dr 6 u s.au,cH b s]):=by
 refine Fn.intro (N:=11) func22 rfl ntmps22 rfl fun F=>?_
 show ax _ _ _ _ _ _ [cH b s,F]
 refine .o1 (C:=cH b s) .auto rfl ?_
 rintro ps -
 refine .jq (C:=dt b ps s) .auto rfl ?_
 rintro fv sv pv bt vm bg vt bk bw vr -
 refine J 12 ?_
 refine .jY rfl ?_
 refine J 8 ?_
 refine .c call75 rfl (J7 (A:=sl dr 6 vr s.au) (Rd.sl .here) hl) fun u9 _=>?_
 refine .c call74 rfl Ld fun u10 _=>?_
 exact JR 4 u10
theorem yR{W:World}{b:Nat}{s:Spc}(hl:s.mem.length≤1000000000):Fn Tryz.prog W 24 [ptr b] [cH b s] Value (fun u=>u) (fun _=>True) (fun u=>[sl bF 1 u s.mem,cH b s]):=by
 refine Fn.intro (N:=11) func24 rfl ntmps24 rfl fun F=>?_
 show ax _ _ _ _ _ _ [cH b s,F]
 refine .o1 (C:=cH b s) .auto rfl ?_
 rintro ps -
 refine .jq (C:=dt b ps s) .auto rfl ?_
 rintro fv sv pv bt vm bg vt bk bw vr -
 refine J 12 ?_
 refine .jY rfl ?_
 refine J 8 ?_
 refine .c call77 rfl (J6 (A:=sl bF 1 vm s.mem) (Rd.sl .here) hl) fun u9 _=>?_
 refine .c call76 rfl Lc fun u10 _=>?_
 exact JR 4 u10
end Go.SLYtefdijgllbkmfaaGreat
namespace Go.SLYtefdijgllbkmfaaGreat
open Go Go.RowKit Go.Proofs Go.Proofs.Tryz
attribute [local irreducible] ax aQ bu cj bQ Y
theorem yS{W:World}{A:aa}{v u:Value}{xs ys:List Int}(hv:Rd W [A] aL 1 v xs)(hu:Rd W [A] aL 1 u ys)(hl:xs.length≤1000000000):Fn Tryz.prog W 18 [v,u] [A] Unit (fun _=>.bool (decide (xs=ys))) (fun _=>True) (fun _=>[A]):=by
 refine Fn.intro (N:=26) func18 rfl ntmps18 rfl fun F=>?_
 haveI hRI:∀ (H:List aa) [bX H A],aI W H v aL 1 xs:=fun H h=>⟨hv.at h.has⟩
 haveI hRJ:∀ (H:List aa) [bX H A],aI W H u aL 1 ys:=fun H h=>⟨hu.at h.has⟩
 show ax _ _ _ _ _ _ [A,F]
 refine JD 15 (fun h10=>?_) fun h10=>?_
 ·refine J 7 ?_
  refine .aC rfl rfl fun w s=>⟨(),?_,trivial,ar .auto s⟩
  rw[decide_eq_false (fun e=>h10 (by rw[e]))]
 ·refine J 9 ?_
  refine .cM (X:=Nat) [4,5,11,12,13,14,15,16,17,18,19,20,21,22,23,24,25] (fun k=>xs.length-k) (fun k=>k≤xs.length∧xs.take k=ys.take k) (fun k=>[(5,some (.int .i64 (k:Int)))]) (fun k=>[A,F]) 0 ?_ ?_ ?_ ?_
  ·exact⟨Nat.zero_le _,rfl⟩
  ·exact⟨rfl,trivial⟩
  ·exact fun w s=>aK.kept .auto w s
  rintro k ⟨hk,hn⟩
  refine JD 9 (fun h14=>?_) fun h14=>?_
  ·refine J 5 ?_
   refine .draw [] [1,1,1,1,1,1,1,1,1] rfl (by kernel_rfl) ?_
   obtain⟨x,hx⟩:=ay (show k<xs.length by omega)
   obtain⟨y,hy⟩:=ay (show k<ys.length by omega)
   refine J 3 ?_
   refine .p (.lr rfl hx) ?_
   refine J 3 ?_
   refine .p (.lr rfl hy) ?_
   refine JD 3 (fun h25=>?_) fun h25=>?_
   ·refine J 11 ?_
    refine .aC rfl rfl fun w s=>⟨(),?_,trivial,ar .auto s⟩
    rw[decide_eq_false (fun e=>h25 (by rw[e] at hx;exact Option.some.inj (hx.symm.trans hy)))]
   ·refine J 8 ?_
    refine .bf (k+1) .auto rfl ?_ ?_ ?_ ?_
    ·first | omega | (dsimp only;omega)
    ·exact⟨by omega,by rw[cy hx,cy hy,hn,Decidable.of_not_not h25]⟩
    ·exact⟨rfl,trivial⟩
    ·exact fun w s=>aK.kept .auto w s
  ·refine J 11 ?_
   obtain rfl:k=xs.length:=by omega
   rw[List.take_length,List.take_of_length_le (by omega)] at hn
   refine .aC rfl rfl fun w s=>⟨(),?_,trivial,ar .auto s⟩
   rw[decide_eq_true hn]
end Go.SLYtefdijgllbkmfaaGreat
