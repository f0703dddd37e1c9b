/- Walks of functions, and what they compute. Conditions: none, this text proves no statement. -/
import Derived.Test.YthlllpngkljgfaaGreatH07
import Derived.Test.YthlllpngkljgfaaGreatProg
import Derived.Test.YthlllpngkljgfaaGreatH10
import Derived.Test.YthlllpngkljgfaaGreatH06
import Derived.KernelRfl
import Derived.Test.YthlllpngkljgfaaGreatH03
import Derived.Test.YthlllpngkljgfaaGreatH05
set_option maxRecDepth 20000
set_option maxHeartbeats 4000000
namespace Go.SLYthlllpngkljgfaaGreat
open Go Go.RowKit Go.Proofs Go.Proofs.Tryz
attribute [local irreducible] aq aS bc bx bC Y
theorem pY{W:World}{b bs br:Nat}{vv vw:Value}{lk:Bool}{rows:List (List Int)}{p:Int}{A:aa}{m:Value}{ts:List Int}(hm:Rd W [A] au 1 m ts)(hl:ts.length≤100000∧rows.length≤64∧ ∀ r∈rows,r.length≤800000000):Fn Tryz.prog W 141 [ptr b,.int .i64 p,m] [arr b 0 (lX bs br vv vw lk),ga br rows,A] Unit (fun _=>.tuple #[]) (fun _=>True) (fun _=>[arr b 0 (lX bs br vv vw lk),ga br (dU rows p ts),A]):=by
 refine Fn.intro (N:=22) func141 rfl ntmps141 rfl fun F=>?_
 haveI hRI:∀ (H:List aa) [bf H A],aw W H m au 1 ts:=fun H h=>⟨hm.at h.has⟩
 show aq _ _ _ _ _ _ [arr b 0 (lX bs br vv vw lk),ga br rows,A,F]
 refine J 8 ?_
 refine .bn (X:=Nat) [7,10,11,12,13,14,15,16,17,18,19,20,21] (fun z=>ts.length-z) (fun z=>z≤ts.length) (fun z=>[(10,some (.int .i64 (z:Int)))]) (fun z=>[arr b 0 (lX bs br vv vw lk),ga br (dU rows p (ts.take z)),A,F]) 0 ?_ ?_ ?_ ?_
 ·exact Nat.zero_le _
 ·exact⟨rfl,trivial⟩
 ·rw[show dU rows p (ts.take 0)=rows from rfl];exact fun w s=>ax.kept .auto w s
 rintro k hk
 refine JD 6 (fun h11=>?_) fun h11=>?_
 ·refine J 6 ?_
  obtain⟨t,hx⟩:=ak (show k<ts.length by omega)
  have hrl:(dU rows p (ts.take k)).length=rows.length:=fQ
  have hrr:=kX (ts:=ts.take k) (p:=p) hl.2.2
  refine J 1 ?_
  refine .p (.lr rfl hx) ?_
  refine J 10 ?_
  refine .c call175 rfl (II (rs:=dU rows p (ts.take k)) (p:=p) (t:=t) ⟨by omega,fun r hr=>by have:=hrr r hr;rw[List.length_take] at this;omega⟩) fun ub _=>?_
  refine J 7 ?_
  refine .aL (k+1) .auto rfl ?_ ?_ ?_ ?_
  ·omega
  ·show k+1≤_;omega
  ·exact⟨rfl,trivial⟩
  ·rw[BP hx]
   exact fun w s=>ax.kept .auto w s
 ·obtain rfl:k=ts.length:=by omega
  rw[List.take_length]
  exact JR 4 ()
theorem ot{W:World}{b bs br:Nat}{l:Lib}{t c:Int}(hO:fj l.aO):Fn Tryz.prog W 144 [ptr b,.int .i64 t,.int .i64 c] [bJ b bs br l] Value (fun u=>.agg (dx u (l.aK t c).1).toArray) (fun _=>True) (fun u=>[sl au 1 u (l.aK t c).1.wx.ar,bJ b bs br (l.aK t c).2]):=by
 refine Fn.intro (N:=22) func144 rfl ntmps144 rfl fun F=>?_
 show aq _ _ _ _ _ _ [bJ b bs br l,F]
 refine .o2 (C:=bJ b bs br l) .auto rfl ?_
 rintro vv vw -
 refine J 2 ?_
 refine .aj rfl (af.alloc rfl zeroValue68 rfl) ?_
 rintro _ _ ⟨b6,rfl,rfl⟩
 refine J 10 ?_
 refine .c call163 rfl (Ar (s:=l.aO) hO) fun u16 _=>?_
 refine .cK (fun w s=>Rd.isSl (Rd.sl .auto) w s) fun hu16=>?_
 refine J 1 ?_
 refine .p (.extract (v:=.agg (nS u16 (l.aO.run t c).1).toArray) rfl rfl) ?_
 refine .p (.extract (v:=.int .i64 (l.aO.run t c).2.1) rfl rfl) ?_
 refine .aj rfl (af.alloc rfl zeroValue66 rfl) ?_
 rintro _ _ ⟨b7,rfl,rfl⟩
 refine .aj rfl (af.iJ (vs:=nS u16 (l.aO.run t c).1) (by exact sizeOf66) rfl rfl (Dr hu16) (by rfl)) ?_
 rintro _ _ ⟨rfl,rfl⟩
 refine J 7 ?_
 refine .p (.xk (fun _ _ _=>dx u16 (l.aK t c).1) rfl rfl rfl (by kernel_rfl)) ?_
 refine .aj rfl (af.iJ (vs:=dx u16 (l.aK t c).1) (by exact sizeOf68) rfl rfl (da hu16) (by rfl)) ?_
 rintro _ _ ⟨rfl,rfl⟩
 refine J 3 ?_
 refine .dN rfl rfl isAgg68 (by exact sizeOf68) Cells.a fun w s=>⟨u16,?_,trivial,ai .auto s⟩
 rfl
theorem Ay{W:World}{u:Value}{e:kO}:Fn Tryz.prog W 145 [.agg (nS u e).toArray] [] Unit (fun _=>.bool e.cj) (fun _=>True) (fun _=>[]):=by
 refine Fn.intro (N:=11) func145 rfl ntmps145 rfl fun F=>?_
 show aq _ _ _ _ _ _ [F]
 refine J 2 ?_
 refine .aj rfl (af.box rfl rfl rfl) ?_
 rintro _ _ ⟨b1,rfl,rfl⟩
 refine .mem (H':=[arr b1 0 (nS u e),F]) (fun w s=>s) ?_
 refine J 9 ?_
 apply aS.gd 4 10 6 [6,7,8,9,10] rfl
 ·intro h6
  exact JS 5
 ·intro h6
  exact JS 5
 exact JR 4 ()
theorem qN{W:World}{b bs br i:Nat}{l:Lib}{v:aM}(hv:l.vs[i]?=some v){m:Int}:Fn Tryz.prog W 88 [ptr b,.int .i64 (i:Int),.int .i64 m] [bJ b bs br l] Unit (fun _=>.tuple #[]) (fun _=>True) (fun _=>[bJ b bs br (l.enter (i:Int) m)]):=by
 refine Fn.intro (N:=22) func88 rfl ntmps88 rfl fun F=>?_
 show aq _ _ _ _ _ _ [bJ b bs br l,F]
 refine .o2 (C:=bJ b bs br l) .auto rfl ?_
 rintro vv vw -
 refine .o1 (C:=ct vv l.vs) .auto rfl ?_
 rintro xs hxs
 have hxl:=aE hxs
 obtain⟨x,hx,rfl⟩:=dt hxs hv
 have hil:=(List.getElem?_eq_some_iff.1 hx).1
 refine JD 9 (fun h10=>?_) fun h10=>?_
 ·rw[m5 hv (by simpa using h10)]
  refine J 6 ?_
  rw[show(lX bs br vv vw l.locked).set 4 (.bool true)=lX bs br vv vw true from rfl]
  refine J 9 ?_
  refine .p (.ix i rfl rfl rfl (by omega)) ?_
  refine J 1 ?_
  refine .aj rfl (af.eG (x':=(x.1,{x.2 with mode:=m })) rfl rfl sizeOf3 rfl hx (by decide) rfl .auto) ?_
  rintro _ _ ⟨rfl,rfl⟩
  refine .to (A:=ct vv (l.vs.set i {x.2 with mode:=m })) (Bs:=[sl fe 3 vv (xs.set i (x.1,{x.2 with mode:=m })),aD (fun x:Value×aM=>sl cr 3 x.1 x.2.evs) xs]) .auto (kp hxs hx rfl) ?_
  exact JR 1 ()
 ·refine J 1 ?_
  rw[pB (by simpa using h10)]
  refine .to (A:=ct vv l.vs) (Bs:=[sl fe 3 vv xs,aD (fun x:Value×aM=>sl cr 3 x.1 x.2.evs) xs]) .auto (fk hxs) ?_
  exact JR 0 ()
theorem ji{W:World}{b bs br i:Nat}{l:Lib}{v:aM}(hv:l.vs[i]?=some v){m t:Int}:Fn Tryz.prog W 139 [ptr b,.int .i64 (i:Int),.int .i64 m,.int .i64 t] [bJ b bs br l] Unit (fun _=>.tuple #[]) (fun _=>True) (fun _=>[bJ b bs br (l.leave (i:Int) m t)]):=by
 refine Fn.intro (N:=27) func139 rfl ntmps139 rfl fun F=>?_
 show aq _ _ _ _ _ _ [bJ b bs br l,F]
 refine .o2 (C:=bJ b bs br l) .auto rfl ?_
 rintro vv vw -
 refine .o1 (C:=ct vv l.vs) .auto rfl ?_
 rintro xs hxs
 have hxl:=aE hxs
 obtain⟨x,hx,rfl⟩:=dt hxs hv
 have hil:=(List.getElem?_eq_some_iff.1 hx).1
 rw[iE hv]
 refine J 6 ?_
 rw[show(lX bs br vv vw l.locked).set 4 (.bool false)=lX bs br vv vw false from rfl]
 refine J 2 ?_
 refine .draw [arr b 0 (lX bs br vv vw false)] [1,1,1,1,1,1,1,1,1,0,1,0,1,1,2,1,1,3] rfl (by kernel_rfl) ?_
 refine J 12 ?_
 refine .p (.ix i rfl rfl rfl (by omega)) ?_
 refine J 1 ?_
 refine .d2 rfl Kept.auto (af.eG (x':=(x.1,{x.2 with mode:=m })) rfl rfl sizeOf3 rfl hx (by decide) rfl .auto) (by rintro _ _ ⟨rfl,rfl⟩;exact Kept.auto) ?_
 rintro _ _ ⟨rfl,rfl⟩
 have hx2:(xs.set i (x.1,{x.2 with mode:=m }))[i]?=some (x.1,{x.2 with mode:=m }):=List.getElem?_set_self hil
 refine .p (.ix i rfl rfl rfl (by rw[List.length_set];omega)) ?_
 refine J 1 ?_
 refine .d3 rfl (af.kD (c:=1) (x':=(x.1,{x.2 with mode:=m,ab:=t })) rfl rfl sizeOf3 rfl hx2 (by decide) rfl .auto) ?_
 rintro _ _ ⟨rfl,rfl⟩
 rw[List.set_set]
 refine .to (A:=ct vv (l.vs.set i {x.2 with mode:=m,ab:=t })) (Bs:=[sl fe 3 vv (xs.set i (x.1,{x.2 with mode:=m,ab:=t })),aD (fun x:Value×aM=>sl cr 3 x.1 x.2.evs) xs]) .auto (kp hxs hx rfl) ?_
 exact JR 1 ()
end Go.SLYthlllpngkljgfaaGreat
namespace Go.SLYthlllpngkljgfaaGreat
open Go Go.RowKit Go.Proofs Go.Proofs.Tryz
attribute [local irreducible] aq aS bc bx bC Y
theorem Az{W:World}{b bs br i:Nat}{l:Lib}{v:aM}(hv:l.vs[i]?=some v){q:Ev}{m:Value}{rest:List Ev}{c:Int}(hz:HK l)(hw:(l.aO.run q.ab c).1.ar.length≤17):Fn Tryz.prog W 138 [ptr b,.int .i64 (i:Int),.agg (cr q).toArray,m,.int .i64 c] [bJ b bs br l,sl cr 3 m rest] Value (fun u=>.agg (dx u (l.recover (i:Int) q rest c).1).toArray) (fun _=>True) (fun u=>[sl au 1 u (l.recover (i:Int) q rest c).1.wx.ar,bJ b bs br (l.recover (i:Int) q rest c).2]):=by
 refine Fn.intro (N:=48) func138 rfl ntmps138 rfl fun F=>?_
 show aq _ _ _ _ _ _ [bJ b bs br l,sl cr 3 m rest,F]
 refine .cK (fun w s=>Rd.isSl (Rd.sl (.there .here)) w s) fun hum=>?_
 refine .o2 (C:=bJ b bs br l) .auto rfl ?_
 rintro vv vw -
 refine .o1 (C:=ct vv l.vs) .auto rfl ?_
 rintro xs hxs
 have hxl:=aE hxs
 obtain⟨x,hx,rfl⟩:=dt hxs hv
 have hil:=(List.getElem?_eq_some_iff.1 hx).1
 refine .fr .auto (c0 (f:=(fun x:Value×aM=>sl cr 3 x.1 x.2.evs)) hx) ?_
 refine J 2 ?_
 refine .aj rfl (af.box rfl rfl rfl) ?_
 rintro _ _ ⟨b7,rfl,rfl⟩
 refine .to (A:=arr b7 0 (cr q)) (Bs:=[arr b7 0 (cr q)]) .auto (fun g a=>by simpa only[seps,aJ] using a) ?_
 refine .aj rfl (af.alloc rfl zeroValue68 rfl) ?_
 rintro _ _ ⟨b10,rfl,rfl⟩
 refine J 10 ?_
 refine .p (.ix i rfl rfl rfl (by omega)) ?_
 refine J 1 ?_
 refine .aj rfl (af.kD (c:=2) (x':=(m,{x.2 with evs:=rest })) rfl rfl sizeOf75 (gb hum) hx (by decide) rfl .auto) ?_
 rintro _ _ ⟨rfl,rfl⟩
 refine .to (A:=ct vv (l.vs.set i {x.2 with evs:=rest })) (Bs:=[sl fe 3 vv (xs.set i (m,{x.2 with evs:=rest })),sl cr 3 m ({x.2 with evs:=rest }).evs,aD (fun x:Value×aM=>sl cr 3 x.1 x.2.evs) (xs.eraseIdx i)]) .auto (mj hxs hx) ?_
 refine J 8 ?_
 rw[show(lX bs br vv vw l.locked).set 4 (.bool false)=lX bs br vv vw false from rfl]
 refine JD 10 (fun h25=>?_) fun h25=>?_
 ·refine J 2 ?_
  refine .p (.lR (dx (.slice none 0 0) gj.z) (by kernel_rfl)) ?_
  refine .aj rfl (af.iJ (vs:=dx (.slice none 0 0) gj.z) (by exact sizeOf68) rfl rfl (by rfl) (by rfl)) ?_
  rintro _ _ ⟨rfl,rfl⟩
  refine J 4 ?_
  rw[k0 hv h25]
  refine .dN rfl rfl isAgg68 (by exact sizeOf68) Cells.a fun w s=>⟨(.slice none 0 0),?_,trivial,ai .auto s⟩
  rfl
 ·have h25:q.mode=7:=Decidable.of_not_not h25
  refine J 8 ?_
  refine .c call144 rfl (ot (l:=(l.qH i x.2 rest)) (t:=q.ab) (c:=c) hz.sp) fun u31 _=>?_
  refine .cK (fun w s=>Rd.isSl (Rd.sl .auto) w s) fun hu31=>?_
  refine .aj rfl (af.alloc rfl zeroValue68 rfl) ?_
  rintro _ _ ⟨b11,rfl,rfl⟩
  refine .aj rfl (af.iJ (vs:=dx u31 ((l.qH i x.2 rest).aK q.ab c).1) (by exact sizeOf68) rfl rfl (da hu31) (by rfl)) ?_
  rintro _ _ ⟨rfl,rfl⟩
  refine J 4 ?_
  refine .o2 (C:=bJ b bs br ((l.qH i x.2 rest).aK q.ab c).2) .auto rfl ?_
  rintro vv vw -
  refine J 5 ?_
  refine .c call141 rfl (pY (rows:=l.rows) (p:=(i:Int)) (A:=sl au 1 u31 (l.aO.run q.ab c).1.ar) (ts:=(l.aO.run q.ab c).1.ar) (Rd.sl .here) ⟨Nat.le_trans hw (by decide),(yh ⟨hz.rl,hz.rw⟩)⟩) fun _ _=>?_
  refine J 6 ?_
  refine .p (.la rfl (Cells.lQ (ds:=nS u31 ((l.qH i x.2 rest).aK q.ab c).1.wx) Cells.a rfl)) ?_
  refine .c call145 rfl Ay fun _ _=>?_
  refine JD 2 (fun h40=>?_) fun h40=>?_
  ·refine J 5 ?_
   refine .aj rfl (af.gI 3 rfl rfl (by kernel_rfl)) ?_
   rintro _ _ ⟨b45,rfl,rfl⟩
   refine .c call141 rfl (pY (rows:=(dU l.rows (i:Int) (l.aO.run q.ab c).1.ar)) (p:=(i:Int)) (A:=arr b45 0 [.int .i64 q.ab]) (ts:=[q.ab]) (Rd.lit .here rfl (fun _ _=>rfl) rfl) ⟨by show 1≤_;decide,(Aa ⟨hz.rl,hz.rw⟩ (Nat.le_trans hw (by decide)))⟩) fun _ _=>?_
   refine J 5 ?_
   refine .aj rfl (af.iJ (vs:=dx u31 ((l.qH i x.2 rest).aK q.ab c).1) (by exact sizeOf68) rfl rfl (da hu31) (by rfl)) ?_
   rintro _ _ ⟨rfl,rfl⟩
   refine J 3 ?_
   rw[k4 hv h25 h40]
   refine .dN rfl rfl isAgg68 (by exact sizeOf68) Cells.a fun w s=>⟨u31,?_,trivial,ai .auto s⟩
   rfl
  ·refine J 5 ?_
   refine .aj rfl (af.iJ (vs:=dx u31 ((l.qH i x.2 rest).aK q.ab c).1) (by exact sizeOf68) rfl rfl (da hu31) (by rfl)) ?_
   rintro _ _ ⟨rfl,rfl⟩
   refine J 3 ?_
   rw[iX hv h25 (by rw[show(l.aO.run q.ab c).1.cj=false from h40];simp)]
   refine .dN rfl rfl isAgg68 (by exact sizeOf68) Cells.a fun w s=>⟨u31,?_,trivial,ai .auto s⟩
   rfl
theorem Ck{W:World}{b bs br i:Nat}{l:Lib}{v:aM}(hv:l.vs[i]?=some v){c:Int}(hz:HK l)(hw:∀ t,(l.aO.run t c).1.ar.length≤17):Fn Tryz.prog W 86 [ptr b,.int .i64 (i:Int),.int .i64 c] [bJ b bs br l] Value (fun u=>.agg (dx u (l.upcall (i:Int) c).1).toArray) (fun _=>True) (fun u=>[sl au 1 u (l.upcall (i:Int) c).1.wx.ar,bJ b bs br (l.upcall (i:Int) c).2]):=by
 refine Fn.intro (N:=34) func86 rfl ntmps86 rfl fun F=>?_
 show aq _ _ _ _ _ _ [bJ b bs br l,F]
 refine .o2 (C:=bJ b bs br l) .auto rfl ?_
 rintro vv vw -
 refine .o1 (C:=ct vv l.vs) .auto rfl ?_
 rintro xs hxs
 have hxl:=aE hxs
 obtain⟨x,hx,rfl⟩:=dt hxs hv
 have hil:=(List.getElem?_eq_some_iff.1 hx).1
 refine .fr .auto (c0 (f:=(fun x:Value×aM=>sl cr 3 x.1 x.2.evs)) hx) ?_
 refine J 2 ?_
 refine .aj rfl (af.alloc rfl zeroValue68 rfl) ?_
 rintro _ _ ⟨b6,rfl,rfl⟩
 refine J 10 ?_
 refine .p (.ix i rfl rfl rfl (by omega)) ?_
 refine J 1 ?_
 refine .p (.ld rfl (Cell.rd (c:=2) Rd.s hx rfl)) ?_
 refine .c call137 rfl (yw (A:=sl cr 3 x.1 x.2.evs) (Rd.sl .here) (Nat.le_trans (hz.ev _ (List.mem_of_getElem? hv)) (by decide))) fun u19 _=>?_
 refine .to (A:=aD (fun x:Value×aM=>sl cr 3 x.1 x.2.evs) xs) (Bs:=[sl cr 3 x.1 x.2.evs,aD (fun x:Value×aM=>sl cr 3 x.1 x.2.evs) (xs.eraseIdx i)]) .auto (eW (f:=(fun x:Value×aM=>sl cr 3 x.1 x.2.evs)) hx) ?_
 refine .to (A:=ct vv l.vs) (Bs:=[sl fe 3 vv xs,aD (fun x:Value×aM=>sl cr 3 x.1 x.2.evs) xs]) .auto (fk hxs) ?_
 refine J 1 ?_
 refine .p (.extract (v:=.agg (cr (wE x.2.evs)).toArray) rfl rfl) ?_
 refine .p (.extract (v:=u19) rfl rfl) ?_
 refine .p (.extract (v:=.bool (evWithin x.2.evs).isSome) rfl rfl) ?_
 refine .aj rfl (af.alloc rfl zeroValue87 rfl) ?_
 rintro _ _ ⟨b7,rfl,rfl⟩
 refine .aj rfl (af.iJ (vs:=cr (wE x.2.evs)) (by exact sizeOf87) rfl rfl (by rfl) (by rfl)) ?_
 rintro _ _ ⟨rfl,rfl⟩
 refine JD 9 (fun h23=>?_) fun h23=>?_
 ·refine J 7 ?_
  refine .c call138 rfl (Az (q:=wE x.2.evs) (rest:=wR x.2.evs) hv hz (hw _)) fun u29 _=>?_
  refine .cK (fun w s=>Rd.isSl (Rd.sl .auto) w s) fun hu29=>?_
  refine .aj rfl (af.iJ (vs:=dx u29 (l.recover (i:Int) (wE x.2.evs) (wR x.2.evs) c).1) (by exact sizeOf68) rfl rfl (da hu29) (by rfl)) ?_
  rintro _ _ ⟨rfl,rfl⟩
  refine J 4 ?_
  rw[k5 hv h23]
  refine .dN rfl rfl isAgg68 (by exact sizeOf68) Cells.a fun w s=>⟨u29,?_,trivial,ai .auto s⟩
  rfl
 ·refine J 6 ?_
  refine .c call88 rfl (qN hv) fun _ _=>?_
  refine J 4 ?_
  refine .p (.lR (dx (.slice none 0 0) gj.z) (by kernel_rfl)) ?_
  refine .aj rfl (af.iJ (vs:=dx (.slice none 0 0) gj.z) (by exact sizeOf68) rfl rfl (by rfl) (by rfl)) ?_
  rintro _ _ ⟨rfl,rfl⟩
  refine J 3 ?_
  rw[m6 hv h23]
  refine .dN rfl rfl isAgg68 (by exact sizeOf68) Cells.a fun w s=>⟨(.slice none 0 0),?_,trivial,ai .auto s⟩
  rfl
theorem IJ{W:World}{b bs br i:Nat}{l:Lib}{v:aM}(hv:l.vs[i]?=some v)(hz:HK l):Fn Tryz.prog W 89 [ptr b,.int .i64 (i:Int)] [bJ b bs br l] Unit (fun _=>.tuple #[]) (fun _=>True) (fun _=>[bJ b bs br (l.pick (i:Int))]):=by
 refine Fn.intro (N:=23) func89 rfl ntmps89 rfl fun F=>?_
 show aq _ _ _ _ _ _ [bJ b bs br l,F]
 refine .o2 (C:=bJ b bs br l) .auto rfl ?_
 rintro vv vw -
 refine J 8 ?_
 refine .c call142 rfl (Ft (rs:=l.rows) (p:=(i:Int)) ⟨hz.rl,fun r hr=>Nat.le_trans (hz.rw r hr) (by decide)⟩) fun _ _=>?_
 refine JD 12 (fun h15=>?_) fun h15=>?_
 ·refine J 5 ?_
  refine .c call139 rfl (ji (l:={l with rows:=lH l.rows (i:Int) }) hv) fun _ _=>?_
  refine J 4 ?_
  rw[m8 h15]
  exact JR 0 ()
 ·have hpn:=pC (l:=l) (i:=i) h15
  rw[hpn.2]
  refine J 5 ?_
  refine .c call139 rfl (ji hv) fun _ _=>?_
  refine J 1 ?_
  rw[hpn.1]
  exact JR 0 ()
theorem Cl{W:World}{b bs br i:Nat}{l:Lib}{v:aM}(hv:l.vs[i]?=some v)(hz:HK l):Fn Tryz.prog W 87 [ptr b,.int .i64 (i:Int)] [bJ b bs br l] Unit (fun _=>.tuple #[]) (fun _=>True) (fun _=>[bJ b bs br (l.handle (i:Int))]):=by
 refine Fn.intro (N:=47) func87 rfl ntmps87 rfl fun F=>?_
 show aq _ _ _ _ _ _ [bJ b bs br l,F]
 refine .o2 (C:=bJ b bs br l) .auto rfl ?_
 rintro vv vw -
 refine .o1 (C:=ct vv l.vs) .auto rfl ?_
 rintro xs hxs
 have hxl:=aE hxs
 obtain⟨x,hx,rfl⟩:=dt hxs hv
 have hil:=(List.getElem?_eq_some_iff.1 hx).1
 have hev:=hz.ev _ (List.mem_of_getElem? hv)
 refine .fr .auto (c0 (f:=(fun x:Value×aM=>sl cr 3 x.1 x.2.evs)) hx) ?_
 refine J 7 ?_
 refine .p (.ix i rfl rfl rfl (by omega)) ?_
 refine J 9 ?_
 refine .p (.ld rfl (Cell.rd (c:=2) Rd.s hx rfl)) ?_
 refine JD 4 (fun h18=>?_) fun h18=>?_
 ·refine J 4 ?_
  refine .to (A:=aD (fun x:Value×aM=>sl cr 3 x.1 x.2.evs) xs) (Bs:=[sl cr 3 x.1 x.2.evs,aD (fun x:Value×aM=>sl cr 3 x.1 x.2.evs) (xs.eraseIdx i)]) .auto (eW (f:=(fun x:Value×aM=>sl cr 3 x.1 x.2.evs)) hx) ?_
  refine .to (A:=ct vv l.vs) (Bs:=[sl fe 3 vv xs,aD (fun x:Value×aM=>sl cr 3 x.1 x.2.evs) xs]) .auto (fk hxs) ?_
  refine .c call139 rfl (ji hv) fun _ _=>?_
  refine J 4 ?_
  rw[k6 hv (List.eq_nil_of_length_eq_zero (by omega))]
  exact JR 0 ()
 ·refine J 5 ?_
  obtain⟨e,r,her⟩:∃ e r,x.2.evs=e::r:=by
   cases h:x.2.evs with
   | nil=>rw[h] at h18;exact absurd rfl h18
   | cons e r=>exact⟨e,r,rfl⟩
  rw[her]
  have hcl:Rd W [sl cr 3 x.1 (e::r)] cr 3 (cut 3 1 (e::r).length x.1) r:=by
   have:=(Rd.sl (W:=W) (H:=[sl cr 3 x.1 (e::r)]) .here).cut (lo:=1) (hi:=(e::r).length) (by simp) (Nat.le_refl _)
   rwa [List.take_length] at this
  refine J 3 ?_
  refine .p (.ld rfl (Cell.rd (c:=2) Rd.s hx rfl)) ?_
  refine .p (.ix 0 rfl rfl rfl (by simp)) ?_
  refine .p (.la rfl (Cells.rd Rd.s (show(e::r)[0]?=some e from rfl))) ?_
  refine .c call140 rfl uj fun _ _=>?_
  refine JD 12 (fun h32=>?_) fun h32=>?_
  ·have het:MG e=e.ab:=by unfold MG;rw[if_pos h32]
   rw[het]
   refine J 4 ?_
   refine .aj rfl (af.gI 3 rfl rfl (by kernel_rfl)) ?_
   rintro _ _ ⟨b36,rfl,rfl⟩
   refine .c call141 rfl (pY (rows:=l.rows) (p:=(i:Int)) (A:=arr b36 0 [.int .i64 e.ab]) (ts:=[e.ab]) (Rd.lit .here rfl (fun _ _=>rfl) rfl) ⟨by show 1≤_;decide,(yh ⟨hz.rl,hz.rw⟩)⟩) fun _ _=>?_
   refine J 7 ?_
   refine .p (.ld rfl (Cell.rd (c:=2) Rd.s hx rfl)) ?_
   refine .p (.sliceFrom 1 underlying75 sizeOf87 rfl rfl Rd.s rfl (by simp)) ?_
   refine .c call102 rfl (yn (A:=sl cr 3 x.1 (e::r)) (xs:=r) hcl (by rw[her] at hev;simp only[List.length_cons] at hev;omega)) fun u44 _=>?_
   refine .cK (fun w s=>Rd.isSl (Rd.sl .auto) w s) fun hu44=>?_
   refine J 2 ?_
   refine .aj rfl (af.kD (c:=2) (x':=(u44,{x.2 with evs:=r })) rfl rfl sizeOf75 (gb hu44) hx (by decide) rfl .auto) ?_
   rintro _ _ ⟨rfl,rfl⟩
   refine .to (A:=ct vv (l.vs.set i {x.2 with evs:=r })) (Bs:=[sl fe 3 vv (xs.set i (u44,{x.2 with evs:=r })),sl cr 3 u44 ({x.2 with evs:=r }).evs,aD (fun x:Value×aM=>sl cr 3 x.1 x.2.evs) (xs.eraseIdx i)]) .auto (mj hxs hx) ?_
   refine J 1 ?_
   rw[m7 hv her h32]
   exact JR 0 ()
  ·refine J 7 ?_
   refine .p (.ld rfl (Cell.rd (c:=2) Rd.s hx rfl)) ?_
   refine .p (.sliceFrom 1 underlying75 sizeOf87 rfl rfl Rd.s rfl (by simp)) ?_
   refine .c call102 rfl (yn (A:=sl cr 3 x.1 (e::r)) (xs:=r) hcl (by rw[her] at hev;simp only[List.length_cons] at hev;omega)) fun u44 _=>?_
   refine .cK (fun w s=>Rd.isSl (Rd.sl .auto) w s) fun hu44=>?_
   refine J 2 ?_
   refine .aj rfl (af.kD (c:=2) (x':=(u44,{x.2 with evs:=r })) rfl rfl sizeOf75 (gb hu44) hx (by decide) rfl .auto) ?_
   rintro _ _ ⟨rfl,rfl⟩
   refine .to (A:=ct vv (l.vs.set i {x.2 with evs:=r })) (Bs:=[sl fe 3 vv (xs.set i (u44,{x.2 with evs:=r })),sl cr 3 u44 ({x.2 with evs:=r }).evs,aD (fun x:Value×aM=>sl cr 3 x.1 x.2.evs) (xs.eraseIdx i)]) .auto (mj hxs hx) ?_
   refine J 1 ?_
   rw[k7 hv her (by rw[h32];simp)]
   exact JR 0 ()
end Go.SLYthlllpngkljgfaaGreat
namespace Go.SLYthlllpngkljgfaaGreat
open Go Go.RowKit Go.Proofs Go.Proofs.Tryz
attribute [local irreducible] aq aS bc bx bC Y
theorem Kt{W:World}{b bs br i:Nat}{l:Lib}{v:aM}(hv:l.vs[i]?=some v){c:Int}(hz:HK l)(hw:∀ t,(l.aO.run t c).1.ar.length≤17):Fn Tryz.prog W 90 [ptr b,.int .i64 (i:Int),.int .i64 c] [bJ b bs br l] Value (fun u=>.agg (dx u (l.gQ (i:Int) c).1).toArray) (fun _=>True) (fun u=>[sl au 1 u (l.gQ (i:Int) c).1.wx.ar,bJ b bs br (l.gQ (i:Int) c).2]):=by
 refine Fn.intro (N:=77) func90 rfl ntmps90 rfl fun F=>?_
 show aq _ _ _ _ _ _ [bJ b bs br l,F]
 refine .o2 (C:=bJ b bs br l) .auto rfl ?_
 rintro vv vw -
 refine .o1 (C:=ct vv l.vs) .auto rfl ?_
 rintro xs hxs
 have hxl:=aE hxs
 obtain⟨x,hx,hxv⟩:=dt hxs hv
 have hil:=(List.getElem?_eq_some_iff.1 hx).1
 subst hxv
 refine J 2 ?_
 refine .aj rfl (af.alloc rfl zeroValue68 rfl) ?_
 rintro _ _ ⟨b6,rfl,rfl⟩
 refine J 9 ?_
 refine .p (.ix i rfl rfl rfl (by omega)) ?_
 refine J 1 ?_
 refine .p (.ld rfl (Cell.rd (c:=1) Rd.s hx rfl)) ?_
 refine J 10 ?_
 refine .c call143 rfl (Cg (s:=l.aO) (n:=x.2.ab) hz.sp) fun _ _=>?_
 refine JD 10 (fun h25=>?_) fun h25=>?_
 ·refine J 7 ?_
  refine .p (.ix i rfl rfl rfl (by omega)) ?_
  refine J 1 ?_
  refine .aj rfl (af.eG (x':=(x.1,{x.2 with mode:=6 })) rfl rfl sizeOf3 rfl hx (by decide) rfl .auto) ?_
  rintro _ _ ⟨rfl,rfl⟩
  refine .to (A:=ct vv (l.vs.set i {x.2 with mode:=6 })) (Bs:=[sl fe 3 vv (xs.set i (x.1,{x.2 with mode:=6 })),aD (fun x:Value×aM=>sl cr 3 x.1 x.2.evs) xs]) .auto (kp hxs hx rfl) ?_
  refine J 4 ?_
  refine .p (.lR (dx (.slice none 0 0) gj.z) (by kernel_rfl)) ?_
  refine .aj rfl (af.iJ (vs:=dx (.slice none 0 0) gj.z) (by exact sizeOf68) rfl rfl (by rfl) (by rfl)) ?_
  rintro _ _ ⟨rfl,rfl⟩
  refine J 4 ?_
  rw[k8 hv h25]
  refine .dN rfl rfl isAgg68 (by exact sizeOf68) Cells.a fun w s=>⟨(.slice none 0 0),?_,trivial,ai .auto s⟩
  rfl
 ·refine J 7 ?_
  refine .to (A:=ct vv l.vs) (Bs:=[sl fe 3 vv xs,aD (fun x:Value×aM=>sl cr 3 x.1 x.2.evs) xs]) .auto (fk hxs) ?_
  refine .c call144 rfl (ot (l:=l) (t:=x.2.ab) (c:=c) hz.sp) fun u37 _=>?_
  refine .cK (fun w s=>Rd.isSl (Rd.sl .auto) w s) fun hu37=>?_
  obtain⟨v,hvd⟩:∃ v,v=x.2:=⟨_,rfl⟩
  rw[← hvd] at hv h25 ⊢
  refine .aj rfl (af.alloc rfl zeroValue68 rfl) ?_
  rintro _ _ ⟨b9,rfl,rfl⟩
  refine .aj rfl (af.iJ (vs:=dx u37 (l.aK v.ab c).1) (by exact sizeOf68) rfl rfl (da hu37) (by rfl)) ?_
  rintro _ _ ⟨rfl,rfl⟩
  refine JD 12 (fun h38=>?_) fun h38=>?_
  ·refine .o2 (C:=bJ b bs br (l.aK v.ab c).2) .auto rfl ?_
   rintro vv vw -
   refine .o1 (C:=ct vv l.vs) .auto rfl ?_
   rintro xs hxs
   have hxl:=aE hxs
   obtain⟨x,hx,hxv⟩:=dt hxs hv
   have hil:=(List.getElem?_eq_some_iff.1 hx).1
   subst hxv
   refine .fr .auto (c0 (f:=(fun x:Value×aM=>sl cr 3 x.1 x.2.evs)) hx) ?_
   refine .draw [arr b 0 (lX bs br vv vw l.locked)] [0,0,0,0,0,1,1,2,2,1,3] rfl (by kernel_rfl) ?_
   refine J 6 ?_
   refine .p (.gr (fun v1 v2=>[v1,v2,(.int .i64 0)]) rfl rfl (by kernel_rfl)) ?_
   refine .d2 rfl Kept.auto (af.gI 87 rfl rfl (by kernel_rfl)) (by rintro _ _ ⟨b49,rfl,rfl⟩;exact Kept.auto) ?_
   rintro _ _ ⟨b49,rfl,rfl⟩
   refine .c2 call94 rfl (og (A:=arr b49 0 [.int .i64 2,.int .i64 x.2.ab,.int .i64 0]) (xs:=[⟨2,x.2.ab,0⟩]) (Rd.lit .here rfl (fun _ _=>rfl) rfl) (by show 1≤_;decide)) fun u50 _=>?_
   refine .cK (fun w s=>Rd.isSl (Rd.sl .auto) w s) fun hu50=>?_
   refine .p (.ix i rfl rfl rfl (by omega)) ?_
   refine .d3 rfl (af.lZ (x':=(u50,(aM.new [⟨2,x.2.ab,0⟩]))) rfl rfl sizeOf80 (rR hu50) hx rfl rfl .auto) ?_
   rintro _ _ ⟨rfl,rfl⟩
   refine J 9 ?_
   refine .to (A:=ct vv (l.vs.set i (aM.new [⟨2,x.2.ab,0⟩]))) (Bs:=[sl fe 3 vv (xs.set i (u50,(aM.new [⟨2,x.2.ab,0⟩]))),sl cr 3 u50 ((aM.new [⟨2,x.2.ab,0⟩])).evs,aD (fun x:Value×aM=>sl cr 3 x.1 x.2.evs) (xs.eraseIdx i)]) .auto (mj hxs hx) ?_
   refine .c call84 rfl (il (A:=sl au 1 u37 (l.aO.run x.2.ab c).1.ar) (Rd.sl .here) (Nat.le_trans (hw _) (by decide))) fun u74 _=>?_
   refine .aj rfl (af.eH rfl call37 rfl (mE (l:={l with aO:=(l.aO.run x.2.ab c).2.2,vs:=l.vs.set i (aM.new [⟨2,x.2.ab,0⟩]) }) (A:=sl cr 3 u74 (aH (l.aO.run x.2.ab c).1.ar)) (Rd.sl .here) ⟨by unfold aH;rw[List.length_map];exact Nat.le_trans (hw _) (by decide),Nat.le_trans hz.wt (by decide),by show(l.vs.set i _).length≤_;rw[List.length_set];exact Nat.le_trans hz.vl (by decide),fun z hzm=>by
     rcases List.mem_or_eq_of_mem_set hzm with h | rfl
     ·exact Nat.le_trans (hz.ev z h) (by decide)
     ·show 1≤_;decide⟩) .auto) ?_
   rintro _ _ ⟨⟨⟩, -,rfl,rfl⟩
   refine J 5 ?_
   refine .aj rfl (af.iJ (vs:=dx u37 (l.aK x.2.ab c).1) (by exact sizeOf68) rfl rfl (da hu37) (by rfl)) ?_
   rintro _ _ ⟨rfl,rfl⟩
   refine J 3 ?_
   rw[m9 hv h25 h38]
   refine .dN rfl rfl isAgg68 (by exact sizeOf68) Cells.a fun w s=>⟨u37,?_,trivial,ai .auto s⟩
   rfl
  ·refine JD 8 (fun h52=>?_) fun h52=>?_
   ·refine .o2 (C:=bJ b bs br (l.aK v.ab c).2) .auto rfl ?_
    rintro vv vw -
    refine .o1 (C:=ct vv l.vs) .auto rfl ?_
    rintro xs hxs
    have hxl:=aE hxs
    obtain⟨x,hx,hxv⟩:=dt hxs hv
    have hil:=(List.getElem?_eq_some_iff.1 hx).1
    subst hxv
    refine .draw [arr b 0 (lX bs br vv vw l.locked)] [1,1,1,1,1,1,1,1,1,0,1,1,2,1,1,3] rfl (by kernel_rfl) ?_
    refine J 10 ?_
    refine .p (.ix i rfl rfl rfl (by omega)) ?_
    refine J 1 ?_
    refine .d2 rfl Kept.auto (af.eG (x':=(x.1,{x.2 with mode:=3 })) rfl rfl sizeOf3 rfl hx (by decide) rfl .auto) (by rintro _ _ ⟨rfl,rfl⟩;exact Kept.auto) ?_
    rintro _ _ ⟨rfl,rfl⟩
    have hx2:(xs.set i (x.1,{x.2 with mode:=3 }))[i]?=some (x.1,{x.2 with mode:=3 }):=List.getElem?_set_self hil
    refine .p (.ix i rfl rfl rfl (by rw[List.length_set];omega)) ?_
    refine J 1 ?_
    refine .d3 rfl (af.kD (c:=1) (x':=(x.1,{x.2 with mode:=3,ab := -1 })) rfl rfl sizeOf3 rfl hx2 (by decide) rfl .auto) ?_
    rintro _ _ ⟨rfl,rfl⟩
    rw[List.set_set]
    refine .to (A:=ct vv (l.vs.set i {x.2 with mode:=3,ab := -1 })) (Bs:=[sl fe 3 vv (xs.set i (x.1,{x.2 with mode:=3,ab := -1 })),aD (fun x:Value×aM=>sl cr 3 x.1 x.2.evs) xs]) .auto (kp hxs hx rfl) ?_
    refine J 9 ?_
    refine .c call84 rfl (il (A:=sl au 1 u37 (l.aO.run x.2.ab c).1.ar) (Rd.sl .here) (Nat.le_trans (hw _) (by decide))) fun u74 _=>?_
    refine .aj rfl (af.eH rfl call37 rfl (mE (l:={l with aO:=(l.aO.run x.2.ab c).2.2,vs:=l.vs.set i ({x.2 with mode:=3,ab := -1 }:aM) }) (A:=sl cr 3 u74 (aH (l.aO.run x.2.ab c).1.ar)) (Rd.sl .here) ⟨by unfold aH;rw[List.length_map];exact Nat.le_trans (hw _) (by decide),Nat.le_trans hz.wt (by decide),by show(l.vs.set i _).length≤_;rw[List.length_set];exact Nat.le_trans hz.vl (by decide),fun z hzm=>by
      rcases List.mem_or_eq_of_mem_set hzm with h | rfl
      ·exact Nat.le_trans (hz.ev z h) (by decide)
      ·exact Nat.le_trans (show x.2.evs.length≤1000000 from hz.ev _ (List.mem_of_getElem? hv)) (by decide)⟩) .auto) ?_
    rintro _ _ ⟨⟨⟩, -,rfl,rfl⟩
    refine J 5 ?_
    refine .aj rfl (af.iJ (vs:=dx u37 (l.aK x.2.ab c).1) (by exact sizeOf68) rfl rfl (da hu37) (by rfl)) ?_
    rintro _ _ ⟨rfl,rfl⟩
    refine J 3 ?_
    rw[pD hv h25 (by rw[show(l.aO.run x.2.ab c).1.aR=false from h38];simp) h52]
    refine .dN rfl rfl isAgg68 (by exact sizeOf68) Cells.a fun w s=>⟨u37,?_,trivial,ai .auto s⟩
    rfl
   ·refine J 9 ?_
    refine .c call84 rfl (il (A:=sl au 1 u37 (l.aO.run v.ab c).1.ar) (Rd.sl .here) (Nat.le_trans (hw _) (by decide))) fun u74 _=>?_
    refine .c call37 rfl (mE (l:=(l.aK v.ab c).2) (A:=sl cr 3 u74 (aH (l.aO.run v.ab c).1.ar)) (Rd.sl .here) ⟨by unfold aH;rw[List.length_map];exact Nat.le_trans (hw _) (by decide),Nat.le_trans hz.wt (by decide),Nat.le_trans hz.vl (by decide),fun z hzm=>Nat.le_trans (hz.ev z hzm) (by decide)⟩) fun _ _=>?_
    refine J 5 ?_
    refine .aj rfl (af.iJ (vs:=dx u37 (l.aK v.ab c).1) (by exact sizeOf68) rfl rfl (da hu37) (by rfl)) ?_
    rintro _ _ ⟨rfl,rfl⟩
    refine J 3 ?_
    rw[na hv h25 (by rw[show(l.aO.run v.ab c).1.aR=false from h38];simp) (by rw[show(l.aO.run v.ab c).1.ended=false from h52];simp)]
    refine .dN rfl rfl isAgg68 (by exact sizeOf68) Cells.a fun w s=>⟨u37,?_,trivial,ai .auto s⟩
    rfl
theorem Cm{W:World}{b bs br i:Nat}{l:Lib}{v:aM}(hv:l.vs[i]?=some v){c:Int}(hz:HK l)(hw:∀ t,(l.aO.run t c).1.ar.length≤17):Fn Tryz.prog W 91 [ptr b,.int .i64 (i:Int),.int .i64 c] [bJ b bs br l] Value (fun u=>.agg (dx u (l.inside (i:Int) c).1).toArray) (fun _=>True) (fun u=>[sl au 1 u (l.inside (i:Int) c).1.wx.ar,bJ b bs br (l.inside (i:Int) c).2]):=by
 refine Fn.intro (N:=52) func91 rfl ntmps91 rfl fun F=>?_
 show aq _ _ _ _ _ _ [bJ b bs br l,F]
 refine .o2 (C:=bJ b bs br l) .auto rfl ?_
 rintro vv vw -
 refine .o1 (C:=ct vv l.vs) .auto rfl ?_
 rintro xs hxs
 have hxl:=aE hxs
 obtain⟨x,hx,rfl⟩:=dt hxs hv
 have hil:=(List.getElem?_eq_some_iff.1 hx).1
 refine J 2 ?_
 refine .aj rfl (af.alloc rfl zeroValue68 rfl) ?_
 rintro _ _ ⟨b6,rfl,rfl⟩
 refine J 9 ?_
 refine .p (.ix i rfl rfl rfl (by omega)) ?_
 refine J 1 ?_
 refine .p (.ld rfl (Cell.rd (c:=1) Rd.s hx rfl)) ?_
 refine J 5 ?_
 refine .to (A:=ct vv l.vs) (Bs:=[sl fe 3 vv xs,aD (fun x:Value×aM=>sl cr 3 x.1 x.2.evs) xs]) .auto (fk hxs) ?_
 refine J 3 ?_
 refine .c call144 rfl (ot (l:=l) (t:=x.2.ab) (c:=c) hz.sp) fun u20 _=>?_
 refine .cK (fun w s=>Rd.isSl (Rd.sl .auto) w s) fun hu20=>?_
 refine .aj rfl (af.alloc rfl zeroValue68 rfl) ?_
 rintro _ _ ⟨b8,rfl,rfl⟩
 refine .aj rfl (af.iJ (vs:=dx u20 (l.aK x.2.ab c).1) (by exact sizeOf68) rfl rfl (da hu20) (by rfl)) ?_
 rintro _ _ ⟨rfl,rfl⟩
 refine J 4 ?_
 refine .o2 (C:=bJ b bs br (l.aK x.2.ab c).2) .auto rfl ?_
 rintro vv2 vw2 -
 refine J 5 ?_
 refine .c call141 rfl (pY (rows:=l.rows) (p:=(i:Int)) (A:=sl au 1 u20 (l.aO.run x.2.ab c).1.ar) (ts:=(l.aO.run x.2.ab c).1.ar) (Rd.sl .here) ⟨Nat.le_trans (hw _) (by decide),(yh ⟨hz.rl,hz.rw⟩)⟩) fun _ _=>?_
 refine J 7 ?_
 refine .p (.la rfl (Cells.lQ (ds:=nS u20 (l.aK x.2.ab c).1.wx) Cells.a rfl)) ?_
 refine .c call145 rfl Ay fun _ _=>?_
 refine JD 4 (fun h31=>?_) fun h31=>?_
 ·refine J 3 ?_
  refine .c call139 rfl (ji (l:={l with aO:=(l.aO.run x.2.ab c).2.2,rows:=(dU l.rows (i:Int) (l.aO.run x.2.ab c).1.ar) }) hv) fun _ _=>?_
  refine J 6 ?_
  refine .aj rfl (af.iJ (vs:=dx u20 (l.aK x.2.ab c).1) (by exact sizeOf68) rfl rfl (da hu20) (by rfl)) ?_
  rintro _ _ ⟨rfl,rfl⟩
  refine J 3 ?_
  rw[k9 hv (by rw[show(l.aO.run x.2.ab c).1.cj=false from by have h:=h31;simp only[Bool.not_eq_true'] at h;exact h];simp)]
  refine .dN rfl rfl isAgg68 (by exact sizeOf68) Cells.a fun w s=>⟨u20,?_,trivial,ai .auto s⟩
  rfl
 ·have hg:(l.aO.run x.2.ab c).1.cj=true:=by have h:=h31;simp only[Bool.not_eq_false'] at h;exact h
  refine JD 8 (fun h39=>?_) fun h39=>?_
  ·refine J 5 ?_
   refine .aj rfl (af.gI 3 rfl rfl (by kernel_rfl)) ?_
   rintro _ _ ⟨b46,rfl,rfl⟩
   refine .c call141 rfl (pY (rows:=(dU l.rows (i:Int) (l.aO.run x.2.ab c).1.ar)) (p:=(i:Int)) (A:=arr b46 0 [.int .i64 x.2.ab]) (ts:=[x.2.ab]) (Rd.lit .here rfl (fun _ _=>rfl) rfl) ⟨by show 1≤_;decide,(Aa ⟨hz.rl,hz.rw⟩ (Nat.le_trans (hw _) (by decide)))⟩) fun _ _=>?_
   refine J 5 ?_
   refine .c call139 rfl (ji (l:={l with aO:=(l.aO.run x.2.ab c).2.2,rows:=(dU (dU l.rows (i:Int) (l.aO.run x.2.ab c).1.ar) (i:Int) [x.2.ab]) }) hv) fun _ _=>?_
   refine J 6 ?_
   refine .aj rfl (af.iJ (vs:=dx u20 (l.aK x.2.ab c).1) (by exact sizeOf68) rfl rfl (da hu20) (by rfl)) ?_
   rintro _ _ ⟨rfl,rfl⟩
   refine J 3 ?_
   rw[iY hv hg h39]
   refine .dN rfl rfl isAgg68 (by exact sizeOf68) Cells.a fun w s=>⟨u20,?_,trivial,ai .auto s⟩
   rfl
  ·refine J 4 ?_
   refine .c call139 rfl (ji (l:={l with aO:=(l.aO.run x.2.ab c).2.2,rows:=(dU l.rows (i:Int) (l.aO.run x.2.ab c).1.ar) }) hv) fun _ _=>?_
   refine J 6 ?_
   refine .aj rfl (af.iJ (vs:=dx u20 (l.aK x.2.ab c).1) (by exact sizeOf68) rfl rfl (da hu20) (by rfl)) ?_
   rintro _ _ ⟨rfl,rfl⟩
   refine J 3 ?_
   rw[nf hv hg (by rw[show(l.aO.run x.2.ab c).1.yielded=false from h39];simp)]
   refine .dN rfl rfl isAgg68 (by exact sizeOf68) Cells.a fun w s=>⟨u20,?_,trivial,ai .auto s⟩
   rfl
theorem IK{W:World}{b bs br:Nat}{l:Lib}{p c:Int}(hz:HK l)(hw:∀ t,(l.aO.run t c).1.ar.length≤17):Fn Tryz.prog W 32 [ptr b,.int .i64 p,.int .i64 c] [bJ b bs br l] Value (fun u=>.tuple #[.agg (dx u (l.step p c).1).toArray,.int .i64 (l.step p c).2.1]) (fun _=>True) (fun u=>[sl au 1 u (l.step p c).1.wx.ar,bJ b bs br (l.step p c).2.2]):=by
 refine Fn.intro (N:=76) func32 rfl ntmps32 rfl fun F=>?_
 show aq _ _ _ _ _ _ [bJ b bs br l,F]
 refine J 2 ?_
 refine .aj rfl (af.alloc rfl zeroValue68 rfl) ?_
 rintro _ _ ⟨b6,rfl,rfl⟩
 refine J 8 ?_
 refine .c call85 rfl mD fun _ _=>?_
 refine JD 3 (fun h12=>?_) fun h12=>?_
 ·refine J 2 ?_
  refine .p (.lR (dx (.slice none 0 0) gj.z) (by kernel_rfl)) ?_
  refine .aj rfl (af.iJ (vs:=dx (.slice none 0 0) gj.z) (by exact sizeOf68) rfl rfl (by rfl) (by rfl)) ?_
  rintro _ _ ⟨rfl,rfl⟩
  refine J 5 ?_
  rw[pE (by simpa using h12)]
  refine .fT rfl rfl isAgg68 (by exact sizeOf68) Cells.a rfl fun w s=>⟨(.slice none 0 0),?_,trivial,ai .auto s⟩
  rfl
 ·have h12:l.has p=true:=by simpa using h12
  refine J 4 ?_
  refine .aj rfl (af.alloc rfl zeroValue68 rfl) ?_
  rintro _ _ ⟨b8,rfl,rfl⟩
  refine J 5 ?_
  obtain⟨i,v,rfl,hv,hm0⟩:=ic h12
  refine .o2 (C:=bJ b bs br l) .auto rfl ?_
  rintro vv vw -
  refine .o1 (C:=ct vv l.vs) .auto rfl ?_
  rintro xs hxs
  have hxl:=aE hxs
  obtain⟨x,hx,rfl⟩:=dt hxs hv
  have hil:=(List.getElem?_eq_some_iff.1 hx).1
  refine J 5 ?_
  refine .p (.ix i rfl rfl rfl (by omega)) ?_
  refine J 1 ?_
  refine .p (.lr rfl hx) ?_
  refine JD 9 (fun h23=>?_) fun h23=>?_
  ·refine J 1 ?_
   refine .to (A:=ct vv l.vs) (Bs:=[sl fe 3 vv xs,aD (fun x:Value×aM=>sl cr 3 x.1 x.2.evs) xs]) .auto (fk hxs) ?_
   refine J 3 ?_
   refine .c call86 rfl (Ck hv hz hw) fun u27 _=>?_
   refine .cK (fun w s=>Rd.isSl (Rd.sl .auto) w s) fun hu27=>?_
   refine .aj rfl (af.iJ (vs:=dx u27 (l.upcall (i:Int) c).1) (by exact sizeOf68) rfl rfl (da hu27) (by rfl)) ?_
   rintro _ _ ⟨rfl,rfl⟩
   refine J 6 ?_
   refine .aj rfl (af.iJ (vs:=dx u27 (l.upcall (i:Int) c).1) (by exact sizeOf68) rfl rfl (da hu27) (by rfl)) ?_
   rintro _ _ ⟨rfl,rfl⟩
   refine J 4 ?_
   rw[sd h12 hv h23]
   refine .fT rfl rfl isAgg68 (by exact sizeOf68) Cells.a rfl fun w s=>⟨u27,?_,trivial,ai .auto s⟩
   rfl
  ·refine JD 6 (fun h29=>?_) fun h29=>?_
   ·refine J 1 ?_
    refine .to (A:=ct vv l.vs) (Bs:=[sl fe 3 vv xs,aD (fun x:Value×aM=>sl cr 3 x.1 x.2.evs) xs]) .auto (fk hxs) ?_
    refine J 2 ?_
    refine .c call87 rfl (Cl hv hz) fun _ _=>?_
    refine J 6 ?_
    refine .aj rfl (af.iJ (vs:=dx (.slice none 0 0) gj.z) (by exact sizeOf68) rfl rfl (by rfl) (by rfl)) ?_
    rintro _ _ ⟨rfl,rfl⟩
    refine J 4 ?_
    rw[se h12 hv (by omega)]
    refine .fT rfl rfl isAgg68 (by exact sizeOf68) Cells.a rfl fun w s=>⟨(.slice none 0 0),?_,trivial,ai .auto s⟩
    rfl
   ·refine JD 6 (fun h34=>?_) fun h34=>?_
    ·refine J 1 ?_
     refine .to (A:=ct vv l.vs) (Bs:=[sl fe 3 vv xs,aD (fun x:Value×aM=>sl cr 3 x.1 x.2.evs) xs]) .auto (fk hxs) ?_
     refine J 2 ?_
     refine .c call88 rfl (qN hv) fun _ _=>?_
     refine J 6 ?_
     refine .aj rfl (af.iJ (vs:=dx (.slice none 0 0) gj.z) (by exact sizeOf68) rfl rfl (by rfl) (by rfl)) ?_
     rintro _ _ ⟨rfl,rfl⟩
     refine J 4 ?_
     rw[sf h12 hv (by omega)]
     refine .fT rfl rfl isAgg68 (by exact sizeOf68) Cells.a rfl fun w s=>⟨(.slice none 0 0),?_,trivial,ai .auto s⟩
     rfl
    ·refine JD 6 (fun h39=>?_) fun h39=>?_
     ·refine J 1 ?_
      refine .to (A:=ct vv l.vs) (Bs:=[sl fe 3 vv xs,aD (fun x:Value×aM=>sl cr 3 x.1 x.2.evs) xs]) .auto (fk hxs) ?_
      refine J 2 ?_
      refine .c call89 rfl (IJ hv hz) fun _ _=>?_
      refine J 6 ?_
      refine .aj rfl (af.iJ (vs:=dx (.slice none 0 0) gj.z) (by exact sizeOf68) rfl rfl (by rfl) (by rfl)) ?_
      rintro _ _ ⟨rfl,rfl⟩
      refine J 4 ?_
      rw[sh h12 hv (by omega)]
      refine .fT rfl rfl isAgg68 (by exact sizeOf68) Cells.a rfl fun w s=>⟨(.slice none 0 0),?_,trivial,ai .auto s⟩
      rfl
     ·refine JD 6 (fun h44=>?_) fun h44=>?_
      ·refine J 1 ?_
       refine .to (A:=ct vv l.vs) (Bs:=[sl fe 3 vv xs,aD (fun x:Value×aM=>sl cr 3 x.1 x.2.evs) xs]) .auto (fk hxs) ?_
       refine J 3 ?_
       refine .c call90 rfl (Kt hv hz hw) fun u48 _=>?_
       refine .cK (fun w s=>Rd.isSl (Rd.sl .auto) w s) fun hu48=>?_
       refine .aj rfl (af.iJ (vs:=dx u48 (l.gQ (i:Int) c).1) (by exact sizeOf68) rfl rfl (da hu48) (by rfl)) ?_
       rintro _ _ ⟨rfl,rfl⟩
       refine J 6 ?_
       refine .aj rfl (af.iJ (vs:=dx u48 (l.gQ (i:Int) c).1) (by exact sizeOf68) rfl rfl (da hu48) (by rfl)) ?_
       rintro _ _ ⟨rfl,rfl⟩
       refine J 4 ?_
       rw[sj h12 hv h44]
       refine .fT rfl rfl isAgg68 (by exact sizeOf68) Cells.a rfl fun w s=>⟨u48,?_,trivial,ai .auto s⟩
       rfl
      ·refine JD 6 (fun h50=>?_) fun h50=>?_
       ·refine J 1 ?_
        refine .to (A:=ct vv l.vs) (Bs:=[sl fe 3 vv xs,aD (fun x:Value×aM=>sl cr 3 x.1 x.2.evs) xs]) .auto (fk hxs) ?_
        refine J 2 ?_
        refine .c call88 rfl (qN hv) fun _ _=>?_
        refine J 6 ?_
        refine .aj rfl (af.iJ (vs:=dx (.slice none 0 0) gj.z) (by exact sizeOf68) rfl rfl (by rfl) (by rfl)) ?_
        rintro _ _ ⟨rfl,rfl⟩
        refine J 4 ?_
        rw[sk h12 hv (by omega)]
        refine .fT rfl rfl isAgg68 (by exact sizeOf68) Cells.a rfl fun w s=>⟨(.slice none 0 0),?_,trivial,ai .auto s⟩
        rfl
       ·refine JD 6 (fun h55=>?_) fun h55=>?_
        ·refine J 1 ?_
         refine .to (A:=ct vv l.vs) (Bs:=[sl fe 3 vv xs,aD (fun x:Value×aM=>sl cr 3 x.1 x.2.evs) xs]) .auto (fk hxs) ?_
         refine J 3 ?_
         refine .c call91 rfl (Cm hv hz hw) fun u59 _=>?_
         refine .cK (fun w s=>Rd.isSl (Rd.sl .auto) w s) fun hu59=>?_
         refine .aj rfl (af.iJ (vs:=dx u59 (l.inside (i:Int) c).1) (by exact sizeOf68) rfl rfl (da hu59) (by rfl)) ?_
         rintro _ _ ⟨rfl,rfl⟩
         refine J 6 ?_
         refine .aj rfl (af.iJ (vs:=dx u59 (l.inside (i:Int) c).1) (by exact sizeOf68) rfl rfl (da hu59) (by rfl)) ?_
         rintro _ _ ⟨rfl,rfl⟩
         refine J 4 ?_
         rw[sm h12 hv h55]
         refine .fT rfl rfl isAgg68 (by exact sizeOf68) Cells.a rfl fun w s=>⟨u59,?_,trivial,ai .auto s⟩
         rfl
        ·refine JD 6 (fun h61=>?_) fun h61=>?_
         ·refine J 6 ?_
          refine .c call92 rfl (Cj (rs:=l.rows) ⟨hz.rl,fun r hr=>Nat.le_trans (hz.rw r hr) (by decide)⟩) fun _ _=>?_
          refine JD 3 (fun h67=>?_) fun h67=>?_
          ·refine J 6 ?_
           refine .p (.ix i rfl rfl rfl (by omega)) ?_
           refine J 1 ?_
           refine .aj rfl (af.eG (x':=(x.1,{x.2 with mode:=3 })) rfl rfl sizeOf3 rfl hx (by decide) rfl .auto) ?_
           rintro _ _ ⟨rfl,rfl⟩
           refine .to (A:=ct vv (l.vs.set i {x.2 with mode:=3 })) (Bs:=[sl fe 3 vv (xs.set i (x.1,{x.2 with mode:=3 })),aD (fun x:Value×aM=>sl cr 3 x.1 x.2.evs) xs]) .auto (kp hxs hx rfl) ?_
           refine J 6 ?_
           refine .aj rfl (af.iJ (vs:=dx (.slice none 0 0) gj.z) (by exact sizeOf68) rfl rfl (by rfl) (by rfl)) ?_
           rintro _ _ ⟨rfl,rfl⟩
           refine J 4 ?_
           rw[pG h12 hv (by omega) (by simpa using h67)]
           refine .fT rfl rfl isAgg68 (by exact sizeOf68) Cells.a rfl fun w s=>⟨(.slice none 0 0),?_,trivial,ai .auto s⟩
           rfl
          ·refine J 6 ?_
           refine .aj rfl (af.iJ (vs:=dx (.slice none 0 0) gj.z) (by exact sizeOf68) rfl rfl (by rfl) (by rfl)) ?_
           rintro _ _ ⟨rfl,rfl⟩
           refine J 4 ?_
           refine .to (A:=ct vv l.vs) (Bs:=[sl fe 3 vv xs,aD (fun x:Value×aM=>sl cr 3 x.1 x.2.evs) xs]) .auto (fk hxs) ?_
           rw[pF h12 hv (by omega) (by simpa using h67)]
           refine .fT rfl rfl isAgg68 (by exact sizeOf68) Cells.a rfl fun w s=>⟨(.slice none 0 0),?_,trivial,ai .auto s⟩
           rfl
         ·refine J 6 ?_
          refine .aj rfl (af.iJ (vs:=dx (.slice none 0 0) gj.z) (by exact sizeOf68) rfl rfl (by rfl) (by rfl)) ?_
          rintro _ _ ⟨rfl,rfl⟩
          refine J 4 ?_
          refine .to (A:=ct vv l.vs) (Bs:=[sl fe 3 vv xs,aD (fun x:Value×aM=>sl cr 3 x.1 x.2.evs) xs]) .auto (fk hxs) ?_
          rw[so h12 hv (by omega)]
          refine .fT rfl rfl isAgg68 (by exact sizeOf68) Cells.a rfl fun w s=>⟨(.slice none 0 0),?_,trivial,ai .auto s⟩
          rfl
theorem AA{W:World}{b bs br:Nat}{l:Lib}{p:Int}(hz:HK l):Fn Tryz.prog W 35 [ptr b,.int .i64 p] [bJ b bs br l] Unit (fun _=>.bool (l.preempt p).1) (fun _=>True) (fun _=>[bJ b bs br (l.preempt p).2]):=by
 refine Fn.intro (N:=23) func35 rfl ntmps35 rfl fun F=>?_
 show aq _ _ _ _ _ _ [bJ b bs br l,F]
 refine J 10 ?_
 refine .c call85 rfl mD fun _ _=>?_
 refine JD 3 (fun h8=>?_) fun h8=>?_
 ·refine J 7 ?_
  rw[jw (by simpa using h8)]
  exact JR 0 ()
 ·refine J 3 ?_
  have h8:l.has p=true:=by simpa using h8
  obtain⟨i,v,rfl,hv,hm0⟩:=ic h8
  refine .o2 (C:=bJ b bs br l) .auto rfl ?_
  rintro vv vw -
  refine .o1 (C:=ct vv l.vs) .auto rfl ?_
  rintro xs hxs
  have hxl:=aE hxs
  obtain⟨x,hx,rfl⟩:=dt hxs hv
  have hil:=(List.getElem?_eq_some_iff.1 hx).1
  refine .fr .auto (c0 (f:=(fun x:Value×aM=>sl cr 3 x.1 x.2.evs)) hx) ?_
  refine .draw [arr b 0 (lX bs br vv vw l.locked)] [0,0,0,0,0,1,1,1,1,1,1,1,2,1,3] rfl (by kernel_rfl) ?_
  refine J 10 ?_
  refine .p (.ix i rfl rfl rfl (by omega)) ?_
  refine .p (.la rfl (Cells.rd Rd.s hx)) ?_
  refine .c2 call97 rfl (rA (A:=sl cr 3 x.1 x.2.evs) (u:=x.1) (x:=x.2) (m:=(.slice none 0 0)) (ys:=[]) (Rd.sl .here) Rd.nil ⟨Nat.le_trans (hz.ev _ (List.mem_of_getElem? hv)) (by decide),by show 0≤_;decide⟩) fun u21 _=>?_
  refine .cK (fun w s=>Rd.isSl (Rd.sl .auto) w s) fun hu21=>?_
  refine .p (.ix i rfl rfl rfl (by omega)) ?_
  refine .d3 rfl (af.lZ (x':=(u21,x.2.told [])) rfl rfl sizeOf80 (rR hu21) hx rfl rfl .auto) ?_
  rintro _ _ ⟨rfl,rfl⟩
  refine .to (A:=ct vv (l.vs.set i (x.2.told []))) (Bs:=[sl fe 3 vv (xs.set i (u21,(x.2.told []))),sl cr 3 u21 ((x.2.told [])).evs,aD (fun x:Value×aM=>sl cr 3 x.1 x.2.evs) (xs.eraseIdx i)]) .auto (mj hxs hx) ?_
  refine J 8 ?_
  rw[iF h8 hv]
  exact JR 0 ()
end Go.SLYthlllpngkljgfaaGreat
namespace Go.SLYthlllpngkljgfaaGreat
open Go Go.RowKit Go.Proofs Go.Proofs.Tryz
attribute [local irreducible] aq aS bc bx bC Y
theorem uC{W:World}  : Fn Tryz.prog W 49 [.pointer none] [] Unit (fun _=>.pointer none) (fun _=>True) (fun _=>[]):=by
 refine Fn.intro (N:=9) func49 rfl ntmps49 rfl fun F=>?_
 show aq _ _ _ _ _ _ [F]
 refine J 12 ?_
 refine .fu rfl ?_
 exact JR 7 ()
end Go.SLYthlllpngkljgfaaGreat
namespace Go.SLYthlllpngkljgfaaGreat
open Go Go.RowKit
theorem eM.at{W:World}{H:List aa}{A:aa}{v:aN}(h:eM W [A] v)(ha:At H A):eM W H v:=⟨h.fs.at ha,fun x hx=>(h.ins x hx).at ha,h.bI.at ha,h.aZ.at ha⟩
theorem eM.ez{W:World}{H:List aa}{v:aN}(h:eM W H v):eM W [seps H] v:=⟨Rd.ez h.fs,fun x hx=>Rd.ez (h.ins x hx),Rd.ez h.bI,Rd.ez h.aZ⟩
theorem AB{l:List Spc}:∀ acts:List gw,(fg l acts).length=l.length
 | []=>rfl
 | a::acts=>(AB (l:=(oDo l a).2) acts).trans (Ds _ _)
/-! the laws' own fact -/
def O3:List gw:=[⟨1,1,0,3⟩,⟨3,5,0,0⟩,⟨1,0,0,0⟩]
def O4:List gw:=[⟨1,0,0,3⟩,⟨3,0,0,0⟩]
def OL:List gw:=[⟨1,1,0,0⟩]
def O5(x y z w:Nat):aa:=seps [OG x y z,arr w 0 (rows fG OL)]
end Go.SLYthlllpngkljgfaaGreat
namespace Go.SLYthlllpngkljgfaaGreat
open Go Go.RowKit
def NY(v:aM)(w:Bool):Bool:=(decide (v.mode=1) && !w) || decide (v.mode=3) || decide (v.mode=6)
end Go.SLYthlllpngkljgfaaGreat
namespace Go.SLYthlllpngkljgfaaGreat
open Go Go.RowKit Go.Proofs Go.Proofs.Tryz
attribute [local irreducible] aq aS bc bx bC Y
end Go.SLYthlllpngkljgfaaGreat
namespace Go.SLYthlllpngkljgfaaGreat
open Go Go.RowKit Go.Proofs Go.Proofs.Tryz
attribute [local irreducible] aq aS bc bx bC Y
theorem jj{W:World}{b bs br:Nat}{l:Lib}:Fn Tryz.prog W 49 [ptr b] [bJ b bs br l] Unit (fun _=>ptr bs) (fun _=>True) (fun _=>[bJ b bs br l]):=by
 refine Fn.intro (N:=9) func49 rfl ntmps49 rfl fun F=>?_
 show aq _ _ _ _ _ _ [bJ b bs br l,F]
 refine J 12 ?_
 refine .ew rfl ?_
 refine J 4 ?_
 refine .o2 (C:=bJ b bs br l) .auto rfl ?_
 rintro vv vw -
 exact JR 8 ()
theorem lx{W:World}{b:Nat}{bl:List Nat}{k:Krn}:Fn Tryz.prog W 71 [ptr b] [bS b bl k] Unit (fun _=>.int .i64 (k.owner.length:Int)) (fun _=>True) (fun _=>[bS b bl k]):=by
 refine Fn.intro (N:=10) func71 rfl ntmps71 rfl fun F=>?_
 show aq _ _ _ _ _ _ [bS b bl k,F]
 refine J 12 ?_
 refine .ew rfl ?_
 refine J 4 ?_
 refine .o3 (C:=bS b bl k) .auto rfl ?_
 rintro vo vl xs ⟨hxb,hxs⟩
 have hxl:=aE hxs
 have hbl:=aE hxb
 have hxx:=And.intro hxb hxs
 exact JR 9 ()
theorem jT{W:World}{b:Nat}{bl:List Nat}{k:Krn}:Fn Tryz.prog W 105 [ptr b] [bS b bl k] Unit (fun _=>.int .i64 (k.libs.length:Int)) (fun _=>True) (fun _=>[bS b bl k]):=by
 refine Fn.intro (N:=10) func105 rfl ntmps105 rfl fun F=>?_
 show aq _ _ _ _ _ _ [bS b bl k,F]
 refine J 12 ?_
 refine .ew rfl ?_
 refine J 4 ?_
 refine .o3 (C:=bS b bl k) .auto rfl ?_
 rintro vo vl xs ⟨hxb,hxs⟩
 have hxl:=aE hxs
 have hbl:=aE hxb
 have hxx:=And.intro hxb hxs
 refine J 9 ?_
 refine .aG rfl rfl fun w s=>⟨(),?_,trivial,ai .auto s⟩
 rw[← hxl]
theorem ou{W:World}{b:Nat}{bl:List Nat}{k:Krn}{p:Int}:Fn Tryz.prog W 68 [ptr b,.int .i64 p] [bS b bl k] Unit (fun _=>.bool (fi k p)) (fun _=>True) (fun _=>[bS b bl k]):=by
 refine Fn.intro (N:=13) func68 rfl ntmps68 rfl fun F=>?_
 show aq _ _ _ _ _ _ [bS b bl k,F]
 refine J 10 ?_
 apply aS.gz 5 12 7 [7,8,9,10,11,12] rfl
 ·intro h7
  refine J 2 ?_
  refine .cg call71 rfl lx fun _ _=>?_
  exact JS 3
 ·intro h7
  exact JS 6
 exact JR 4 ()
theorem Cn{W:World}{b:Nat}{bl:List Nat}{k:Krn}{p:Int}:Fn Tryz.prog W 21 [ptr b,.int .i64 p] [bS b bl k] Unit (fun _=>.tuple #[.int .i64 (k.ownerOf p).1,.bool (k.ownerOf p).2]) (fun _=>True) (fun _=>[bS b bl k]):=by
 refine Fn.intro (N:=27) func21 rfl ntmps21 rfl fun F=>?_
 show aq _ _ _ _ _ _ [bS b bl k,F]
 refine J 11 ?_
 refine .c call68 rfl ou fun _ _=>?_
 refine J 2 ?_
 apply aS.iw 9 19 10 [10,11,12,13,14,15,16,17,18,19] rfl
 ·intro h10
  have h9:fi k p=true:=by simpa using h10
  obtain⟨i,o,hi,ho⟩:=jg h9
  have hil:=(List.getElem?_eq_some_iff.1 ho).1
  refine .o3 (C:=bS b bl k) .auto rfl ?_
  rintro vo vl xs ⟨hxb,hxs⟩
  have hxl:=aE hxs
  have hbl:=aE hxb
  have hxx:=And.intro hxb hxs
  refine J 5 ?_
  refine .g (.sM i underlying50 sizeOf3 rfl rfl Rd.s hi (by omega)) ?_
  refine .g (.fq (Y.load isAgg3 rfl (Cell.KH Rd.s ho rfl)) ((xA ho).trans (congrArg _ hi.symm))) ?_
  exact JS 3
 ·intro h10
  exact JS 10
 refine JD 2 (fun h19=>?_) fun h19=>?_
 ·simp only[Bool.or_eq_true,decide_eq_true_eq,Bool.not_eq_true'] at h19
  refine J 8 ?_
  refine .ey rfl rfl rfl fun w s=>⟨(),?_,trivial,ai .auto s⟩
  rw[ta h19]
 ·simp only[Bool.or_eq_false_iff,decide_eq_false_iff_not,Bool.not_eq_false'] at h19
  refine J 4 ?_
  obtain⟨i,o,rfl,ho⟩:=jg (by simpa using h19.1)
  have hil:=(List.getElem?_eq_some_iff.1 ho).1
  have hoo:=xA ho
  refine .o3 (C:=bS b bl k) .auto rfl ?_
  rintro vo vl xs ⟨hxb,hxs⟩
  have hxl:=aE hxs
  have hbl:=aE hxb
  have hxx:=And.intro hxb hxs
  refine J 5 ?_
  refine .p (.ix i rfl rfl rfl (by omega)) ?_
  refine J 6 ?_
  refine .ey rfl rfl rfl fun w s=>⟨(),?_,trivial,ai .auto s⟩
  rw[qm ho (by rw[hoo];exact h19.2)]
theorem Fu{W:World}{b:Nat}{bl:List Nat}{k:Krn}(hl:k.owner.length≤64):Fn Tryz.prog W 27 [ptr b] [bS b bl k] Value (fun u=>u) (fun _=>True) (fun u=>[sl au 1 u k.free,bS b bl k]):=by
 refine Fn.intro (N:=24) func27 rfl ntmps27 rfl fun F=>?_
 show aq _ _ _ _ _ _ [bS b bl k,F]
 refine J 14 ?_
 refine .c call71 rfl lx fun _ _=>?_
 refine .o3 (C:=bS b bl k) .auto rfl ?_
 rintro vo vl xs ⟨hxb,hxs⟩
 have hxl:=aE hxs
 have hbl:=aE hxb
 have hxx:=And.intro hxb hxs
 refine J 4 ?_
 refine .bn (X:=Nat×Value×List Int) [3,4,7,8,9,10,11,12,13,14,15,16,17,18,19,20,21,22] (fun z=>k.owner.length-z.1) (fun z=>z.1≤k.owner.length∧z.2.2.length≤z.1∧k.free=z.2.2++freeFrom (k.owner.drop z.1) z.1) (fun z=>[(7,some (.int .i64 (z.1:Int))),(3,some z.2.1)]) (fun z=>[sl au 1 z.2.1 z.2.2,arr b 0 [vo,vl],sl au 1 vo k.owner,sl bH 1 vl xs,aD (fun x:Nat×Lib=>df x.1 x.2) xs,F]) (0,.slice none 0 0,[]) ?_ ?_ ?_ ?_
 ·exact⟨Nat.zero_le _,Nat.le_refl _,rfl⟩
 ·exact⟨rfl,rfl,trivial⟩
 ·exact fun w s=>ax.kept .auto w s
 rintro⟨n,u,ys⟩ ⟨hk,hyl,hn⟩
 simp only at hk hyl hn
 refine JD 6 (fun h8=>?_) fun h8=>?_
 ·refine J 12 ?_
  obtain⟨o,ho⟩:=ak (show n<k.owner.length by omega)
  refine JD 10 (fun h17=>?_) fun h17=>?_
  ·refine J 3 ?_
   refine .aj rfl (af.gI 3 rfl rfl (by kernel_rfl)) ?_
   rintro _ _ ⟨b20,rfl,rfl⟩
   refine .aj rfl (af.gg (enc:=au) (k:=1) (n:Int) rfl underlying50 underlying50 typeInfo3 rfl rfl rfl (by decide) rfl rfl rfl .auto rfl .auto (by first | omega | (dsimp only;omega)) rfl) ?_
   rintro _ _ ⟨v21,rfl,rfl⟩
   refine J 8 ?_
   refine .aL (n+1,v21,ys++[(n:Int)]) .auto rfl ?_ ?_ ?_ ?_
   ·show k.owner.length-(n+1)<k.owner.length-n;omega
   ·exact⟨by show n+1≤_;omega,by simp;omega,by rw[hn,GA ho h17];simp⟩
   ·exact⟨rfl,rfl,trivial⟩
   ·exact fun w s=>ax.kept .auto w s
  ·refine J 7 ?_
   refine .aL (n+1,u,ys) .auto rfl ?_ ?_ ?_ ?_
   ·show k.owner.length-(n+1)<k.owner.length-n;omega
   ·exact⟨by show n+1≤_;omega,by show ys.length≤n+1;omega,by rw[hn,Jr ho h17]⟩
   ·exact⟨rfl,rfl,trivial⟩
   ·exact fun w s=>ax.kept .auto w s
 ·refine J 12 ?_
  obtain rfl:n=k.owner.length:=by omega
  rw[GB (Nat.le_refl _),List.append_nil] at hn
  subst hn
  refine .aG rfl rfl fun w s=>⟨_,?_,trivial,ai .auto s⟩
  rfl
theorem AD{W:World}{b:Nat}{bl:List Nat}{k:Krn}{m:Nat}(hk:qZ m k):Fn Tryz.prog W 166 [ptr b] [bS b bl k] Value (fun u=>u) (fun _=>True) (fun u=>[sl au 1 u k.demand,bS b bl k]):=by
 refine Fn.intro (N:=25) func166 rfl ntmps166 rfl fun F=>?_
 show aq _ _ _ _ _ _ [bS b bl k,F]
 have hll:=hk.ll
 refine J 14 ?_
 refine .c call105 rfl jT fun _ _=>?_
 refine .o3 (C:=bS b bl k) .auto rfl ?_
 rintro vo vl xs ⟨hxb,hxs⟩
 have hxl:=aE hxs
 have hbl:=aE hxb
 have hxx:=And.intro hxb hxs
 refine J 4 ?_
 refine .bn (X:=Nat×Value) [3,4,7,8,9,10,11,12,13,14,15,16,17,18,19,20,21,22,23] (fun z=>k.libs.length-z.1) (fun z=>z.1≤k.libs.length) (fun z=>[(7,some (.int .i64 (z.1:Int))),(3,some z.2)]) (fun z=>[sl au 1 z.2 (k.demand.take z.1),arr b 0 [vo,vl],sl au 1 vo k.owner,sl bH 1 vl xs,aD (fun x:Nat×Lib=>df x.1 x.2) xs,F]) (0,.slice none 0 0) ?_ ?_ ?_ ?_
 ·exact Nat.zero_le _
 ·exact⟨rfl,rfl,trivial⟩
 ·exact fun w s=>ax.kept .auto w s
 rintro⟨n,u⟩ hn
 simp only at hn
 refine JD 6 (fun h8=>?_) fun h8=>?_
 ·refine J 11 ?_
  obtain⟨x,hx⟩:=ak (show n<xs.length by omega)
  have hx2:=eQ hxs hx
  have hlo:=hk.gY x.2 (List.mem_of_getElem? hx2)
  refine J 8 ?_
  refine .fr .auto (c0 (f:=fun x:Nat×Lib=>df x.1 x.2) hx) ?_
  refine .o2 (C:=df x.1 x.2) .auto rfl ?_
  rintro bs br -
  refine .c call49 rfl jj fun _ _=>?_
  refine .o2 (C:=bJ x.1 bs br x.2) .auto rfl ?_
  rintro vv vw -
  refine .o1 (C:=ca bs x.2.aO) .auto rfl ?_
  rintro ps -
  refine .c call44 rfl (lh hlo.th) fun u19 _=>?_
  refine J 1 ?_
  refine .aj rfl (af.gI 3 rfl rfl (by kernel_rfl)) ?_
  rintro _ _ ⟨b21,rfl,rfl⟩
  refine .to (A:=aD (fun x:Nat×Lib=>df x.1 x.2) xs) .auto (eW (f:=fun x:Nat×Lib=>df x.1 x.2) hx) ?_
  refine .aj rfl (af.gg (enc:=au) (k:=1) (x.2.aO.ready.length:Int) rfl underlying50 underlying50 typeInfo3 rfl rfl rfl (by decide) rfl rfl rfl .auto rfl .auto (by rw[List.length_take];omega) rfl) ?_
  rintro _ _ ⟨v22,rfl,rfl⟩
  refine J 8 ?_
  refine .aL (n+1,v22) .auto rfl ?_ ?_ ?_ ?_
  ·show k.libs.length-(n+1)<k.libs.length-n;omega
  ·show n+1≤_;omega
  ·exact⟨rfl,rfl,trivial⟩
  ·show ∀ w,Sat _ w _→Sat _ w (seps [sl au 1 v22 (k.demand.take (n+1)),arr b 0 [vo,vl],sl au 1 vo k.owner,sl bH 1 vl xs,aD (fun x:Nat×Lib=>df x.1 x.2) xs,F])
   rw[GC hx2]
   exact fun w s=>ax.kept .auto w s
 ·refine J 12 ?_
  obtain rfl:n=k.libs.length:=by omega
  rw[List.take_of_length_le (show k.demand.length≤k.libs.length from by unfold Krn.demand;rw[List.length_map];exact Nat.le_refl _)]
  refine .aG rfl rfl fun w s=>⟨_,?_,trivial,ai .auto s⟩
  rfl
theorem gS{W:World}{b:Nat}{bl:List Nat}{k:Krn}{n:Int}:Fn Tryz.prog W 48 [ptr b,.int .i64 n] [bS b bl k] Unit (fun _=>dO (aB bl n)) (fun _=>True) (fun _=>[bS b bl k]):=by
 refine Fn.intro (N:=27) func48 rfl ntmps48 rfl fun F=>?_
 show aq _ _ _ _ _ _ [bS b bl k,F]
 refine .o3 (C:=bS b bl k) .auto rfl ?_
 rintro vo vl xs ⟨hxb,hxs⟩
 have hxl:=aE hxs
 have hbl:=aE hxb
 have hxx:=And.intro hxb hxs
 refine J 11 ?_
 apply aS.iw 3 10 7 [7,8,9,10] rfl
 ·intro h7
  exact JS 4
 ·intro h7
  exact JS 4
 refine J 1 ?_
 apply aS.gf 8 19 11 [11,12,13,14,15,16,17,18,19] rfl
 ·intro h11
  exact JS 9
 ·intro h11
  exact JS 9
 refine JD 2 (fun h19=>?_) fun h19=>?_
 ·simp only[Bool.or_eq_true,decide_eq_true_eq] at h19
  refine J 7 ?_
  refine .aG rfl rfl fun w s=>⟨(),?_,trivial,ai .auto s⟩
  rw[(Lf (ke hxb hxs) (by rw[← hxl];simpa using h19)).1];rfl
 ·simp only[Bool.or_eq_false_iff,decide_eq_false_iff_not] at h19
  refine J 4 ?_
  obtain⟨i,rfl⟩:∃ i:Nat,n=(i:Int):=⟨n.toNat,by omega⟩
  obtain⟨x,hx⟩:=ak (show i<xs.length by omega)
  have hil:=(List.getElem?_eq_some_iff.1 hx).1
  refine J 5 ?_
  refine .p (.ix i rfl rfl rfl (by omega)) ?_
  refine J 5 ?_
  refine .aG rfl rfl fun w s=>⟨(),?_,trivial,ai .auto s⟩
  rw[bb,eQ hxb hx];rfl
theorem qO{W:World}{b:Nat}{bl:List Nat}{k:Krn}{p:Int}{m:Nat}(hk:qZ m k):Fn Tryz.prog W 127 [ptr b,.int .i64 p] [bS b bl k] Unit (fun _=>.tuple #[dO (tc bl k p),.int .i64 (du k p)]) (fun _=>True) (fun _=>[bS b bl k]):=by
 refine Fn.intro (N:=27) func127 rfl ntmps127 rfl fun F=>?_
 show aq _ _ _ _ _ _ [bS b bl k,F]
 refine J 11 ?_
 refine .c call68 rfl ou fun _ _=>?_
 refine JD 3 (fun h11=>?_) fun h11=>?_
 ·refine J 8 ?_
  refine .ey rfl rfl rfl fun w s=>⟨(),?_,trivial,ai .auto s⟩
  rw[(vE (bl:=bl) (by simpa using h11)).1,(vE (bl:=bl) (by simpa using h11)).2];rfl
 ·refine J 6 ?_
  refine .c call21 rfl Cn fun _ _=>?_
  refine JD 14 (fun h19=>?_) fun h19=>?_
  ·refine J 8 ?_
   refine .ey rfl rfl rfl fun w s=>⟨(),?_,trivial,ai .auto s⟩
   rw[(vG (bl:=bl) (by simpa using h11) (by simpa using h19)).1,(vG (bl:=bl) (by simpa using h11) (by simpa using h19)).2];rfl
  ·refine J 4 ?_
   refine .o3 (C:=bS b bl k) .auto rfl ?_
   rintro vo vl xs ⟨hxb,hxs⟩
   have hxl:=aE hxs
   have hbl:=aE hxb
   have hxx:=And.intro hxb hxs
   obtain⟨i,o,rfl,ho,hon,hoe⟩:=GD (by simpa using h11) (by simpa using h19)
   obtain⟨n,l,rfl,hl⟩:=hk.nat ho hon
   obtain⟨x,hx,rfl,hbx⟩:=eX hxb hxs hl
   have hil:=(List.getElem?_eq_some_iff.1 hx).1
   rw[(jr (bl:=bl) ho).1,(jr (bl:=bl) ho).2,hbx]
   refine J 5 ?_
   refine .p (.sM n underlying119 sizeOf61 rfl rfl Rd.s (congrArg (·.1) hoe) (by omega)) ?_
   exact JR 6 ()
theorem Fv{W:World}{b:Nat}{bl:List Nat}{k:Krn}{p:Int}{m:Nat}(hk:qZ m k)(hm:m≤300000000):Fn Tryz.prog W 122 [ptr b,.int .i64 p] [bS b bl k] Unit (fun _=>.int .i64 (k.take p).1) (fun _=>True) (fun _=>[bS b bl (k.take p).2]):=by
 refine Fn.intro (N:=25) func122 rfl ntmps122 rfl fun F=>?_
 show aq _ _ _ _ _ _ [bS b bl k,F]
 refine J 9 ?_
 refine .c call127 rfl (qO hk) fun _ _=>?_
 refine JD 14 (fun h14=>?_) fun h14=>?_
 ·refine J 8 ?_
  rw[js h14]
  exact JR 0 ()
 ·refine J 4 ?_
  refine .o3 (C:=bS b bl k) .auto rfl ?_
  rintro vo vl xs ⟨hxb,hxs⟩
  have hxl:=aE hxs
  have hbl:=aE hxb
  have hxx:=And.intro hxb hxs
  obtain⟨i,n,l,rfl,ho,hl,he⟩:=dy hk (Decidable.of_not_not h14)
  obtain⟨x,hx,rfl,hbx⟩:=eX hxb hxs hl
  have hil:=(List.getElem?_eq_some_iff.1 hx).1
  have hio:=(List.getElem?_eq_some_iff.1 ho).1
  have hlo:=hk.gY x.2 (List.mem_of_getElem? hl)
  rw[he]
  refine J 5 ?_
  refine .p (.ix i rfl rfl rfl (by omega)) ?_
  refine .aj rfl (af.eG (x':=(-1:Int)) rfl rfl sizeOf3 rfl ho (by decide) rfl .auto) ?_
  rintro _ _ ⟨rfl,rfl⟩
  refine J 4 ?_
  rw[(jr (bl:=bl) ho).2,hbx]
  refine .fr .auto (c0 (f:=fun x:Nat×Lib=>df x.1 x.2) hx) ?_
  refine .o2 (C:=df x.1 x.2) .auto rfl ?_
  rintro bs br -
  refine J 2 ?_
  refine .c call34 rfl (BZ (l:=x.2) (b:=x.1) (bs:=bs) (br:=br) (p:=(i:Int)) ⟨by have:=hlo.w;omega,Nat.le_trans hlo.vl (by decide),fun v hv=>Nat.le_trans (hlo.e v hv) (by omega)⟩) fun _ _=>?_
  refine .to (A:=aD (fun x:Nat×Lib=>df x.1 x.2) (xs.set n (x.1,(x.2.cF (i:Int)).2))) .auto (kM (f:=fun x:Nat×Lib=>df x.1 x.2) (x.1,(x.2.cF (i:Int)).2) hx) ?_
  have hss:=mW hxb hxs hx (x.2.cF (i:Int)).2
  refine .to (A:=sl bH 1 vl (xs.set n (x.1,(x.2.cF (i:Int)).2))) (Bs:=[sl bH 1 vl xs]) .auto (qn (hxb.trans hss.1.symm)) ?_
  exact JR 8 ()
theorem Fw{W:World}{b:Nat}{bl:List Nat}{k:Krn}{p n:Int}{m:Nat}(hk:qZ m k)(hm:m≤300000000):Fn Tryz.prog W 123 [ptr b,.int .i64 p,.int .i64 n] [bS b bl k] Unit (fun _=>.int .i64 (k.eP p n).1) (fun _=>True) (fun _=>[bS b bl (k.eP p n).2]):=by
 refine Fn.intro (N:=39) func123 rfl ntmps123 rfl fun F=>?_
 show aq _ _ _ _ _ _ [bS b bl k,F]
 refine J 9 ?_
 refine .c call48 rfl gS fun _ _=>?_
 refine J 9 ?_
 refine .c call68 rfl ou fun _ _=>?_
 refine J 2 ?_
 apply aS.iw 3 19 16 [16,17,18,19] rfl
 ·intro h16
  exact JS 4
 ·intro h16
  exact JS 4
 refine JD 3 (fun h11=>?_) fun h11=>?_
 ·simp only[Bool.or_eq_true,Bool.not_eq_true'] at h11
  refine .o3 (C:=bS b bl k) .auto rfl ?_
  rintro vo vl xs ⟨hxb,hxs⟩
  have hxl:=aE hxs
  have hbl:=aE hxb
  have hxx:=And.intro hxb hxs
  rw[Bj (ke hxb hxs) h11]
  exact JR 8 ()
 ·simp only[Bool.or_eq_false_iff,Bool.not_eq_false'] at h11
  refine .o3 (C:=bS b bl k) .auto rfl ?_
  rintro vo vl xs ⟨hxb,hxs⟩
  have hxl:=aE hxs
  have hbl:=aE hxb
  have hxx:=And.intro hxb hxs
  obtain⟨i,j,o,x,rfl,rfl,ho,hx,hl,hbx⟩:=Ei hxb hxs h11
  have hio:=(List.getElem?_eq_some_iff.1 ho).1
  have hlo:=hk.gY x.2 (List.mem_of_getElem? hl)
  refine J 7 ?_
  refine .p (.ix i rfl rfl rfl (by omega)) ?_
  refine JD 5 (fun h20=>?_) fun h20=>?_
  ·rw[Bi ho ((bb _ _).trans hl) h20]
   exact JR 8 ()
  ·obtain rfl:=Decidable.of_not_not h20
   rw[l3 ho hl]
   refine J 11 ?_
   refine .p (.ix i rfl rfl rfl (by omega)) ?_
   refine .aj rfl (af.eG (x':=(j:Int)) rfl rfl sizeOf3 rfl ho (by decide) rfl .auto) ?_
   rintro _ _ ⟨rfl,rfl⟩
   refine J 4 ?_
   rw[hbx]
   refine .fr .auto (c0 (f:=fun x:Nat×Lib=>df x.1 x.2) hx) ?_
   refine .o2 (C:=df x.1 x.2) .auto rfl ?_
   rintro bs br -
   refine J 2 ?_
   refine .c call33 rfl (Fa (l:=x.2) (b:=x.1) (bs:=bs) (br:=br) (p:=(i:Int)) (by have:=hlo.w;omega)) fun _ _=>?_
   refine .to (A:=aD (fun x:Nat×Lib=>df x.1 x.2) (xs.set j (x.1,(x.2.dj (i:Int)).2))) .auto (kM (f:=fun x:Nat×Lib=>df x.1 x.2) (x.1,(x.2.dj (i:Int)).2) hx) ?_
   have hss:=mW hxb hxs hx (x.2.dj (i:Int)).2
   refine .to (A:=sl bH 1 vl (xs.set j (x.1,(x.2.dj (i:Int)).2))) (Bs:=[sl bH 1 vl xs]) .auto (qn (hxb.trans hss.1.symm)) ?_
   exact JR 8 ()
end Go.SLYthlllpngkljgfaaGreat
namespace Go.SLYthlllpngkljgfaaGreat
open Go Go.RowKit Go.Proofs Go.Proofs.Tryz
attribute [local irreducible] aq aS bc bx bC Y
theorem IL{W:World}{A:aa}{v:Value}{ps:List aN}{procs:Int}(hr:Rd W [A] ed 8 v ps)(hp:∀ p∈ps,eM W [A] p)(hb:ps.length≤1000000000∧ ∀ p∈ps,p.fs.length≤1000000000∧p.bI.length≤1000000000∧p.aZ.length≤1000000000):Fn Tryz.prog W 60 [.int .i64 procs,v] [A] (Option Nat) (fun o=>.tuple #[dO o,.int .i64 (ec procs (ps.map aN.p))]) (fun o=>o.isSome=decide (ec procs (ps.map aN.p)=0)) (fun o=>[optH (fun b=>Gz b (Krn.new procs (ps.map aN.p))) o,A]):=by
 refine Fn.intro (N:=60) func60 rfl ntmps60 rfl fun F=>?_
 haveI hRI:∀ (H:List aa) [bf H A],aw W H v ed 8 ps:=fun H h=>⟨hr.at h.has⟩
 show aq _ _ _ _ _ _ [A,F]
 have hml:(ps.map aN.p).length=ps.length:=List.length_map ..
 refine J 12 ?_
 apply aS.gf 3 16 13 [13,14,15,16] rfl
 ·intro h13
  exact JS 4
 ·intro h13
  exact JS 4
 refine J 1 ?_
 apply aS.iw 4 21 17 [17,18,19,20,21] rfl
 ·intro h17
  exact JS 5
 ·intro h17
  exact JS 5
 refine J 1 ?_
 apply aS.iw 4 26 22 [22,23,24,25,26] rfl
 ·intro h22
  exact JS 5
 ·intro h22
  exact JS 5
 refine JD 2 (fun h26=>?_) fun h26=>?_
 ·simp only[Bool.or_eq_true,decide_eq_true_eq] at h26
  refine J 8 ?_
  refine .ey rfl rfl rfl fun w s=>⟨none,?_,by rw[zo (by rw[hml];exact h26)];rfl,ai .auto s⟩
  rw[zo (by rw[hml];exact h26)];rfl
 ·simp only[Bool.or_eq_false_iff,decide_eq_false_iff_not] at h26
  refine J 4 ?_
  have hbd:1≤procs∧procs≤64∧1≤(ps.map aN.p).length∧(ps.map aN.p).length≤8:=by rw[hml];omega
  obtain⟨N,rfl⟩:∃ N:Nat,procs=(N:Int):=⟨procs.toNat,by omega⟩
  have hke:=Js hbd
  refine .aj rfl (af.gI 3 rfl rfl (by kernel_rfl)) ?_
  rintro _ _ ⟨b27,rfl,rfl⟩
  refine J 1 ?_
  refine .c call120 rfl (J7 (A:=arr b27 0 [.int .i64 (-1)]) (a := -1) (Rd.lit .here rfl (fun _ _=>rfl) rfl) (by omega)) fun u29 _=>?_
  refine .cK (fun w s=>Rd.shape (Rd.sl .auto) w s) fun e=>?_
  obtain⟨a29,c29,rfl⟩:=e
  rw[show(List.replicate N (-1:Int)).length=N from List.length_replicate ..]
  refine .p (.hG (fun v1=>[v1,(.slice none 0 0)]) rfl (by kernel_rfl)) ?_
  refine .aj rfl (af.box rfl rfl rfl) ?_
  rintro _ _ ⟨b31,rfl,rfl⟩
  refine J 12 ?_
  refine .bn (X:=Nat×Value×List (Nat×Lib)) [4,5,8,9,10,34,35,36,37,38,39,40,41,42,43,44,45,46,47,48,49,50,51,52,53,54,55,56,57,58] (fun z=>ps.length-z.1) (fun z=>z.1≤ps.length∧z.2.2.length=z.1∧z.2.2.map (·.2)=((ps.map aN.p).take z.1).map (fun p=>Lib.new (Spc.new p) N)∧checkAll (ps.map aN.p)=checkAll ((ps.map aN.p).drop z.1)) (fun z=>[(34,some (.int .i64 (z.1:Int)))]) (fun z=>[arr b31 0 [.slice a29 N c29,z.2.1],sl au 1 (.slice a29 N c29) (List.replicate N (-1)),sl bH 1 z.2.1 z.2.2,aD (fun x:Nat×Lib=>df x.1 x.2) z.2.2,A,F]) (0,.slice none 0 0,[]) ?_ ?_ ?_ ?_
  ·exact⟨Nat.zero_le _,rfl,rfl,rfl⟩
  ·exact⟨rfl,trivial⟩
  ·exact fun w s=>ax.kept .auto w s
  rintro⟨n,vl,xs⟩ ⟨hk,hxl,hxm0,hck⟩
  simp only at hk hxl hxm0 hck
  refine JD 6 (fun h35=>?_) fun h35=>?_
  ·refine J 6 ?_
   obtain⟨x,hx⟩:=ak (show n<ps.length by omega)
   have hxm:(ps.map aN.p)[n]?=some x.p:=by rw[List.getElem?_map,hx];rfl
   have hpx:=hp x (List.mem_of_getElem? hx)
   have hbx:=hb.2 x (List.mem_of_getElem? hx)
   refine .cK (fun w s=>xz hpx .auto w s) fun hone=>?_
   refine J 1 ?_
   refine .p (.la rfl (Cells.rd Rd.s hx)) ?_
   refine .aj rfl (af.alloc rfl zeroValue56 rfl) ?_
   rintro _ _ ⟨b8,rfl,rfl⟩
   refine .aj rfl (af.KI (by exact sizeOf56) rfl rfl hone rfl) ?_
   rintro _ _ ⟨rfl,rfl⟩
   refine J 5 ?_
   refine .c call29 rfl (Ai hpx hbx) fun o ho=>?_
   refine JD 14 (fun h44=>?_) fun h44=>?_
   ·refine J 14 ?_
    refine .ey rfl rfl rfl fun w s=>⟨none,?_,by rw[hke,hck,te hxm h44];exact(decide_eq_false h44).symm,ai .auto s⟩
    rw[hke,hck,te hxm h44];rfl
   ·have h44:=Decidable.of_not_not h44
    obtain⟨bs,rfl⟩:=Option.isSome_iff_exists.1 (ho.trans (decide_eq_true h44))
    refine .fr (A:=optH (fun b=>ca b (Spc.new x.p)) (some bs)) (Bs:=[ca bs (Spc.new x.p)]) .auto eV ?_
    refine .o1 (C:=ca bs (Spc.new x.p)) .auto rfl ?_
    rintro pt -
    refine J 2 ?_
    refine .draw [arr b31 0 [.slice a29 N c29,vl]] [0,0,0,0,0,1,1,2,2,2,1,1,3] rfl (by kernel_rfl) ?_
    refine J 7 ?_
    refine .c2 call31 rfl (J9 (bs:=bs) (ps:=pt) (s:=Spc.new x.p) (p:=(N:Int)) (xD _)) fun x53 _=>?_
    refine .d2 rfl Kept.auto (af.gI 61 rfl rfl (by kernel_rfl)) (by rintro _ _ ⟨b54,rfl,rfl⟩;exact Kept.auto) ?_
    rintro _ _ ⟨b54,rfl,rfl⟩
    refine .d2 rfl Kept.auto (af.gg (enc:=bH) (k:=1) ((x53,Lib.new (Spc.new x.p) N):Nat×Lib) rfl underlying119 underlying119 typeInfo61 rfl rfl rfl (by decide) rfl rfl rfl .auto rfl .auto (by first | omega | (dsimp only;omega)) rfl) (by rintro _ _ ⟨v55,rfl,rfl⟩;exact Kept.auto) ?_
    rintro _ _ ⟨v55,rfl,rfl⟩
    refine J 2 ?_
    refine .d3 rfl (af.lY sizeOf119 rfl rfl rfl) ?_
    rintro _ _ ⟨rfl,rfl⟩
    refine J 7 ?_
    refine .aL (n+1,v55,xs++[(x53,Lib.new (Spc.new x.p) N)]) .auto rfl ?_ ?_ ?_ ?_
    ·show ps.length-(n+1)<ps.length-n;omega
    ·exact⟨by show n+1≤_;omega,by simp[hxl],by rw[aX hxm];simp[hxm0],by rw[hck,Bk hxm h44]⟩
    ·exact⟨rfl,trivial⟩
    ·show ∀ w,Sat _ w _→Sat _ w (seps [_,_,sl bH 1 v55 (xs++[(x53,Lib.new (Spc.new x.p) N)]),aD (fun x:Nat×Lib=>df x.1 x.2) (xs++[(x53,Lib.new (Spc.new x.p) N)]),A,F])
     rw[j7]
     exact fun w s=>ax.kept .auto w s
  ·refine J 13 ?_
   obtain rfl:n=ps.length:=by omega
   have hk0:ec N (ps.map aN.p)=0:=by rw[hke,hck,List.drop_of_length_le (by rw[hml];omega)];rfl
   have hxx:xs.map (·.1)=xs.map (·.1)∧xs.map (·.2)=(Krn.new N (ps.map aN.p)).libs:=⟨rfl,by rw[hxm0,List.take_of_length_le (by rw[hml];omega)];rfl⟩
   refine .ey rfl rfl rfl fun w s=>⟨some b31,?_,by rw[hk0];rfl,ai .auto s⟩
   rw[hk0];rfl
theorem AE{W:World}{b:Nat}{dv pv ov:Value}{d:Deal}{A:aa}(hd:Rd W [A] au 1 dv d.demand)(hpr:Rd W [A] au 1 pv d.prio)(hok:xB d){n:Nat}{p:Int}(hn:n<d.demand.length):Fn Tryz.prog W 219 [ptr b,.int .i64 (n:Int),.int .i64 p] [arr b 0 [.int .i64 d.left,dv,pv,ov],sl au 1 ov d.out,A] Unit (fun _=>.bool (d.lC n p)) (fun _=>True) (fun _=>[arr b 0 [.int .i64 d.left,dv,pv,ov],sl au 1 ov d.out,A]):=by
 refine Fn.intro (N:=33) func219 rfl ntmps219 rfl fun F=>?_
 haveI hRD:∀ (H:List aa) [bf H A],aw W H dv au 1 d.demand:=fun H h=>⟨hd.at h.has⟩
 haveI hRP:∀ (H:List aa) [bf H A],aw W H pv au 1 d.prio:=fun H h=>⟨hpr.at h.has⟩
 show aq _ _ _ _ _ _ [arr b 0 [.int .i64 d.left,dv,pv,ov],sl au 1 ov d.out,A,F]
 obtain⟨z,hz⟩:=ak hn
 obtain⟨x,hx⟩:=ak (show n<d.prio.length by rw[hok.pl];exact hn)
 obtain⟨y,hy⟩:=ak (show n<d.out.length by rw[hok.ol];exact hn)
 have hpl:=hok.pl
 have hol:=hok.ol
 have hdl:=hok.dl
 refine J 6 ?_
 refine .draw [] [1,1,1,1,1,1,1,1,1,1,1,1,1,1,1,1,1,1,1,1,1,1,1,1,1,1,1] rfl (by kernel_rfl) ?_
 refine J 5 ?_
 refine .p (.ix n rfl rfl rfl (by omega)) ?_
 refine .p (.lr rfl hx) ?_
 refine J 3 ?_
 apply bc.gz 16 32 16 [16,17,18,19,20,21,22,23,24,25,26,27,28,29,30,31,32] rfl
 ·intro h16
  refine J 5 ?_
  refine .g (.ix n rfl rfl rfl (by omega)) ?_
  refine .g (.lr rfl hy) ?_
  refine J 5 ?_
  refine .g (.ix n rfl rfl rfl (by omega)) ?_
  refine .g (.lr rfl hz) ?_
  exact JS 3
 ·intro h16
  exact JS 17
 refine J 4 ?_
 refine .aG rfl rfl fun w s=>⟨(),?_,trivial,ai .auto s⟩
 unfold Deal.lC;rw[bA hx,bA hy,bA hz]
theorem AF{W:World}{b:Nat}{dv pv ov:Value}{d:Deal}{p:Int}{f:Nat}{A:aa}(hd:Rd W [A] au 1 dv d.demand)(hpr:Rd W [A] au 1 pv d.prio)(hok:xB d)(hf:f<d.demand.length):Fn Tryz.prog W 192 [ptr b,.int .i64 p,.int .i64 (f:Int)] [arr b 0 [.int .i64 d.left,dv,pv,ov],sl au 1 ov d.out,A] Unit (fun _=>.bool (d.round p f).2) (fun _=>True) (fun _=>[arr b 0 [.int .i64 (d.round p f).1.left,dv,pv,ov],sl au 1 ov (d.round p f).1.out,A]):=by
 refine Fn.intro (N:=56) func192 rfl ntmps192 rfl fun F=>?_
 haveI hRD:∀ (H:List aa) [bf H A],aw W H dv au 1 d.demand:=fun H h=>⟨hd.at h.has⟩
 haveI hRP:∀ (H:List aa) [bf H A],aw W H pv au 1 d.prio:=fun H h=>⟨hpr.at h.has⟩
 show aq _ _ _ _ _ _ [arr b 0 [.int .i64 d.left,dv,pv,ov],sl au 1 ov d.out,A,F]
 have hln:d.demand.length≤8:=hok.dl
 refine J 22 ?_
 refine .bn (X:=Nat×Deal×Bool) [7,8,9,15,16,17,18,19,20,21,22,23,24,25,26,27,28,29,30,31,32,33,34,35,36,37,38,39,40,41,42,43,44,45,46,47,48,49,50,51,52,53,54] (fun z=>d.demand.length-z.1) (fun z=>z.1≤d.demand.length∧xB z.2.1∧z.2.1.demand=d.demand∧z.2.1.prio=d.prio∧d.round p f=Deal.go p f (d.demand.length-z.1) z.1 z.2.1 z.2.2) (fun z=>[(15,some (.int .i64 (z.1:Int))),(7,some (.bool z.2.2))]) (fun z=>[arr b 0 [.int .i64 z.2.1.left,dv,pv,ov],sl au 1 ov z.2.1.out,A,F]) (0,d,false) ?_ ?_ ?_ ?_
 ·exact⟨Nat.zero_le _,hok,rfl,rfl,rfl⟩
 ·exact⟨rfl,rfl,trivial⟩
 ·exact fun w s=>ax.kept .auto w s
 rintro⟨k,d1,any⟩ ⟨hk,hok1,hdd,hdp,hgo⟩
 simp only at hk hok1 hdd hdp hgo
 refine JD 6 (fun h16=>?_) fun h16=>?_
 ·refine J 14 ?_
  refine .p (.add rfl rfl (by omega)) ?_
  refine J 5 ?_
  have hd1:d1.demand.length=d.demand.length:=by rw[hdd]
  obtain⟨n,hn⟩:∃ n,n=(f+k) % d.demand.length:=⟨_,rfl⟩
  have hnn:((f:Int)+(k:Int)).tmod (d.demand.length:Int)=(n:Int):=by
   rw[← Int.natCast_add,hn, ← Int.ofNat_tmod]
  have hnl:n<d.demand.length:=by rw[hn];exact Nat.mod_lt _ (by omega)
  have hkl:k<d1.demand.length:=by omega
  have hn1:n=(f+k) % d1.demand.length:=by rw[hd1];exact hn
  have hll:=hok1.left
  refine .p (.fq (Y.rem rfl rfl (by omega)) hnn) ?_
  refine J 11 ?_
  apply aS.gz 5 37 32 [32,33,34,35,36,37] rfl
  ·intro h32
   refine J 3 ?_
   refine .cg call219 rfl (AE (d:=d1) (hdd ▸ hd) (hdp ▸ hpr) hok1 (n:=n) (by omega)) fun _ _=>?_
   exact JS 2
  ·intro h32
   exact JS 6
  refine JD 2 (fun h37=>?_) fun h37=>?_
  ·simp only[Bool.and_eq_true,decide_eq_true_eq] at h37
   obtain⟨y,hy⟩:=ak (show n<d1.out.length by rw[hok1.ol];omega)
   have hol:=(List.getElem?_eq_some_iff.1 hy).1
   have hyb:y<1000000∧0≤y:=Ej hok1 h37.2 hy (by omega)
   have hy1:d1.out.set n (y+1)=d1.out.set n (d1.out.getD n 0+1):=by rw[bA hy]
   refine J 7 ?_
   refine .p (.ix n rfl rfl rfl (by omega)) ?_
   refine .p (.lr rfl hy) ?_
   refine .p (.add rfl rfl (by omega)) ?_
   refine .p (.ix n rfl rfl rfl (by omega)) ?_
   refine .aj rfl (af.eG (x':=y+1) rfl rfl sizeOf3 rfl hy (by decide) rfl .auto) ?_
   rintro _ _ ⟨rfl,rfl⟩
   refine J 8 ?_
   refine .p (.sub rfl rfl (by have:=h37.1;dsimp only;omega)) ?_
   refine J 14 ?_
   refine .aL (k+1,{d1 with out:=d1.out.set n (d1.out.getD n 0+1),left:=d1.left-1 },true) .auto rfl ?_ ?_ ?_ ?_
   ·show d.demand.length-(k+1)<d.demand.length-k;omega
   ·have hs:=oL h37
    have ok:=xC hok1 p n
    rw[hs] at ok
    exact⟨by show k+1≤_;omega,ok,hdd,hdp,by have:=CR (d:=d1) hgo hkl (by rw[hdd]) hn1 hs;rw[hd1,Bool.or_true] at this;exact this⟩
   ·exact⟨rfl,rfl,trivial⟩
   ·show ∀ w,Sat _ w _→Sat _ w (seps [_,sl au 1 ov (d1.out.set n (d1.out.getD n 0+1)),A,F])
    rw[← hy1]
    exact fun w s=>ax.kept .auto w s
  ·simp only[Bool.and_eq_false_iff,decide_eq_false_iff_not] at h37
   have h37:¬(0<d1.left∧d1.lC n p=true):=fun e=>h37.elim (fun h=>h e.1) (fun h=>by rw[e.2] at h;cases h)
   refine J 7 ?_
   refine .aL (k+1,d1,any) .auto rfl ?_ ?_ ?_ ?_
   ·show d.demand.length-(k+1)<d.demand.length-k;omega
   ·exact⟨by show k+1≤_;omega,hok1,hdd,hdp,by have:=CR (d:=d1) hgo hkl (by rw[hdd]) hn1 (oM h37);rw[hd1,Bool.or_false] at this;exact this⟩
   ·exact⟨rfl,rfl,trivial⟩
   ·exact fun w s=>ax.kept .auto w s
 ·refine J 12 ?_
  obtain rfl:k=d.demand.length:=by omega
  rw[Nat.sub_self] at hgo
  rw[hgo]
  exact JR 0 ()
theorem Co{W:World}{A:aa}{dv pv:Value}{procs turn:Int}{demand prio:List Int}(hd:Rd W [A] au 1 dv demand)(hpr:Rd W [A] au 1 pv prio)(hb:prio.length≤1000000000∧ ∀ z∈demand,z≤1000000):Fn Tryz.prog W 165 [.int .i64 procs,dv,pv,.int .i64 turn] [A] Value (fun u=>u) (fun _=>True) (fun u=>[sl au 1 u ((lD procs demand prio turn).getD []),A]):=by
 refine Fn.intro (N:=70) func165 rfl ntmps165 rfl fun F=>?_
 show aq _ _ _ _ _ _ [A,F]
 refine .cK (fun w s=>Rd.shape (hd.at .here) w s) fun e=>?_
 obtain⟨ad,cd,rfl⟩:=e
 refine .cK (fun w s=>Rd.shape (hpr.at .here) w s) fun e=>?_
 obtain⟨ap,cp,rfl⟩:=e
 haveI hRD:∀ (H:List aa) [bf H A],aw W H (.slice ad demand.length cd) au 1 demand:=fun H h=>⟨hd.at h.has⟩
 haveI hRP:∀ (H:List aa) [bf H A],aw W H (.slice ap prio.length cp) au 1 prio:=fun H h=>⟨hpr.at h.has⟩
 refine J 20 ?_
 apply aS.gf 3 23 20 [20,21,22,23] rfl
 ·intro h20
  exact JS 4
 ·intro h20
  exact JS 4
 refine J 1 ?_
 apply aS.iw 4 28 24 [24,25,26,27,28] rfl
 ·intro h24
  refine J 1 ?_
  refine .cg call191 rfl pQ fun _ _=>?_
  exact JS 3
 ·intro h24
  exact JS 5
 refine JD 2 (fun h28=>?_) fun h28=>?_
 ·simp only[Bool.or_eq_true,decide_eq_true_eq,Bool.not_eq_true'] at h28
  rw[CS h28]
  exact JR 7 (Value.slice none 0 0)
 ·simp only[Bool.or_eq_false_iff,decide_eq_false_iff_not,Bool.not_eq_false'] at h28
  have h28:demand.length=prio.length∧demand.length≤8∧within procs 64=true:=⟨by omega,by omega,h28.2⟩
  have hwp:=h28.2.2
  unfold within at hwp
  simp only[Bool.and_eq_true,decide_eq_true_eq] at hwp
  refine J 11 ?_
  refine .bn (X:=Nat) [8,11,31,32,33,34,35,36,37,38] (fun k=>prio.length-k) (fun k=>k≤prio.length∧(prio.take k).all (fun p=>within p 7)=true) (fun k=>[(31,some (.int .i64 (k:Int)))]) (fun k=>[A,F]) 0 ?_ ?_ ?_ ?_
  ·exact⟨Nat.zero_le _,rfl⟩
  ·exact⟨rfl,trivial⟩
  ·exact fun w s=>ax.kept .auto w s
  rintro k ⟨hk,hal⟩
  refine JD 6 (fun h32=>?_) fun h32=>?_
  ·refine J 6 ?_
   obtain⟨x,hx⟩:=ak (show k<prio.length by omega)
   refine J 1 ?_
   refine .p (.lr rfl hx) ?_
   refine J 6 ?_
   refine .c call191 rfl pQ fun _ _=>?_
   refine JD 3 (fun h37=>?_) fun h37=>?_
   ·rw[zl hx (by simpa using h37)]
    exact JR 11 (Value.slice none 0 0)
   ·refine J 7 ?_
    refine .aL (k+1) .auto rfl ?_ ?_ ?_ ?_
    ·first | omega | (dsimp only;omega)
    ·exact⟨by omega,by rw[j8 hx,hal];simpa using h37⟩
    ·exact⟨rfl,trivial⟩
    ·exact fun w s=>ax.kept .auto w s
  ·obtain rfl:k=prio.length:=by omega
   rw[List.take_length] at hal
   refine J 11 ?_
   refine .aj rfl (af.F5 (enc:=au) (k:=1) 0 demand.length rfl underlying50 typeInfo3 rfl rfl rfl rfl (by decide) (by decide) rfl rfl rfl rfl (by omega)) ?_
   rintro _ _ ⟨b43,rfl,rfl⟩
   refine .p (.F1 (fun v1 v2 v3 v4=>[v1,v2,v3,v4]) rfl rfl rfl rfl (by kernel_rfl)) ?_
   refine .aj rfl (af.box rfl rfl rfl) ?_
   rintro _ _ ⟨b45,rfl,rfl⟩
   refine JD 10 (fun h47=>?_) fun h47=>?_
   ·have h0:demand.length=0:=by omega
    rw[zm h28 hal h0]
    refine J 11 ?_
    rw[h0]
    refine .aG rfl rfl fun w s=>⟨.slice (some ⟨b43,0,none⟩) 0 0,?_,trivial,ai .auto s⟩
    rfl
   ·have h0:¬demand.length=0:=by omega
    have hn0:0<demand.length:=by omega
    rw[zn h28 hal h0]
    have hok0:=GF h28 hb.2
    refine J 9 ?_
    refine .bn (X:=Nat×Deal) [13,52,53,54,55,56,57,58,59,60,61,62,63,64,65] (fun z=>z.1) (fun z=>z.1≤8∧xB z.2∧z.2.demand=demand∧z.2.prio=prio∧priosN (pick turn demand.length) z.1 z.2=priosN (pick turn demand.length) 8 (Lh procs demand prio)) (fun z=>[(13,some (.int .i64 ((z.1:Int)-1)))]) (fun z=>[arr b45 0 [.int .i64 z.2.left,.slice ad demand.length cd,.slice ap prio.length cp,(.slice (some ⟨b43,0,none⟩) demand.length demand.length)],sl au 1 (.slice (some ⟨b43,0,none⟩) demand.length demand.length) z.2.out,A,F]) (8,Lh procs demand prio) ?_ ?_ ?_ ?_
    ·exact⟨Nat.le_refl _,hok0,rfl,rfl,rfl⟩
    ·exact⟨rfl,trivial⟩
    ·exact fun w s=>ax.kept .auto w s
    rintro⟨r,d⟩ ⟨hr8,hok,hdd,hdp,hpi⟩
    simp only at hr8 hok hdd hdp hpi
    refine JD 7 (fun h53=>?_) fun h53=>?_
    ·obtain⟨q,rfl⟩:∃ q,r=q+1:=⟨r - 1,by omega⟩
     refine J 5 ?_
     refine .bn (X:=Deal) [13,56,57,58,59,60,61,62,63,64,65] (fun z=>z.left.toNat) (fun z=>xB z∧z.demand=demand∧z.prio=prio∧dr (q:Int) (pick turn demand.length) z=dr (q:Int) (pick turn demand.length) d) (fun z=>[(13,some (.int .i64 (q:Int)))]) (fun z=>[arr b45 0 [.int .i64 z.left,.slice ad demand.length cd,.slice ap prio.length cp,(.slice (some ⟨b43,0,none⟩) demand.length demand.length)],sl au 1 (.slice (some ⟨b43,0,none⟩) demand.length demand.length) z.out,A,F]) d ?_ ?_ ?_ ?_
     ·exact⟨hok,hdd,hdp,rfl⟩
     ·exact⟨show some (Value.int .i64 (((q+1:Nat):Int)-1))=some (.int .i64 (q:Int)) from by rw[show((q+1:Nat):Int)-1=(q:Int) by omega],trivial⟩
     ·exact fun w s=>ax.kept .auto w s
     rintro d1 ⟨hok1,hdd1,hdp1,hdr⟩
     have hrf:=round_facts d1 (q:Int) (pick turn demand.length)
     refine J 7 ?_
     have hn0:0<demand.length:=by omega
     refine .p (.rem rfl rfl (by omega)) ?_
     refine J 1 ?_
     refine .p (.add rfl rfl (by have h1:=Int.lt_tmod_of_pos turn (show(0:Int)<(demand.length:Int) by omega);have h2:=Int.tmod_lt_of_pos turn (show(0:Int)<(demand.length:Int) by omega);omega)) ?_
     refine J 1 ?_
     refine .p (.fq (Y.rem rfl rfl (by omega)) (oN hn0)) ?_
     refine .c call192 rfl (AF (d:=d1) (p:=(q:Int)) (f:=pick turn demand.length) (by rw[hdd1];exact hd) (by rw[hdp1];exact hpr) hok1 (by rw[hdd1];exact kN hn0)) fun _ _=>?_
     refine JD 2 (fun h65=>?_) fun h65=>?_
     ·refine J 5 ?_
      refine .aL ((d1.round (q:Int) (pick turn demand.length)).1) .auto rfl ?_ ?_ ?_ ?_
      ·have h1:=hrf.2.2.1 h65;have h2:=hrf.2.1 hok1.left.1;omega
      ·exact⟨hrf.2.2.2.2.2 hok1,by rw[hrf.2.2.2.1,hdd1],by rw[hrf.2.2.2.2.1,hdp1],by rw[← Lg hok1.left.1 h65,hdr]⟩
      ·exact⟨rfl,trivial⟩
      ·exact fun w s=>ax.kept .auto w s
     ·refine J 11 ?_
      refine .aL (q,(d1.round (q:Int) (pick turn demand.length)).1) .auto rfl ?_ ?_ ?_ ?_
      ·show q<q+1;omega
      ·exact⟨by show q≤8;omega,hrf.2.2.2.2.2 hok1,by rw[hrf.2.2.2.1,hdd1],by rw[hrf.2.2.2.2.1,hdp1],by rw[← hpi, ← MH h65,hdr];rfl⟩
      ·exact⟨rfl,trivial⟩
      ·exact fun w s=>ax.kept .auto w s
    ·obtain rfl:r=0:=by omega
     refine J 15 ?_
     rw[← hpi]
     refine .aG rfl rfl fun w s=>⟨(.slice (some ⟨b43,0,none⟩) demand.length demand.length),?_,trivial,ai .auto s⟩
     rfl
end Go.SLYthlllpngkljgfaaGreat
namespace Go.SLYthlllpngkljgfaaGreat
open Go Go.RowKit Go.Proofs Go.Proofs.Tryz
attribute [local irreducible] aq aS bc bx bC Y
theorem Fx{W:World}{b:Nat}{bl:List Nat}{k:Krn}{p c:Int}{m:Nat}(hk:nk m k):Fn Tryz.prog W 125 [ptr b,.int .i64 p,.int .i64 c] [bS b bl k] Value (fun u=>.tuple #[.int .i64 (k.step p c).1.1,.agg (dx u (k.step p c).1.2.1).toArray,.int .i64 (k.step p c).1.2.2]) (fun _=>True) (fun u=>[sl au 1 u (k.step p c).1.2.1.wx.ar,bS b bl (k.step p c).2]):=by
 refine Fn.intro (N:=38) func125 rfl ntmps125 rfl fun F=>?_
 show aq _ _ _ _ _ _ [bS b bl k,F]
 refine J 3 ?_
 refine .aj rfl (af.alloc rfl zeroValue68 rfl) ?_
 rintro _ _ ⟨b7,rfl,rfl⟩
 refine J 7 ?_
 refine .c call127 rfl (qO hk.ok) fun _ _=>?_
 refine JD 14 (fun h19=>?_) fun h19=>?_
 ·refine J 2 ?_
  refine .p (.lR (dx (.slice none 0 0) gj.z) (by kernel_rfl)) ?_
  refine J 2 ?_
  refine .aj rfl (af.iJ (vs:=dx (.slice none 0 0) gj.z) (by exact sizeOf68) rfl rfl (by rfl) (by rfl)) ?_
  rintro _ _ ⟨rfl,rfl⟩
  refine J 5 ?_
  rw[gF h19]
  refine .HT rfl rfl isAgg68 (by exact sizeOf68) Cells.a rfl rfl fun w s=>⟨(.slice none 0 0),?_,trivial,ai .auto s⟩
  rfl
 ·refine J 4 ?_
  refine .o3 (C:=bS b bl k) .auto rfl ?_
  rintro vo vl xs ⟨hxb,hxs⟩
  have hxl:=aE hxs
  have hbl:=aE hxb
  have hxx:=And.intro hxb hxs
  obtain⟨i,n,l,rfl,ho,hl, -⟩:=dy hk.ok (Decidable.of_not_not h19)
  obtain⟨x,hx,rfl,hbx⟩:=eX hxb hxs hl
  have hil:=(List.getElem?_eq_some_iff.1 hx).1
  have hio:=(List.getElem?_eq_some_iff.1 ho).1
  have hlo:=hk.gY x.2 (List.mem_of_getElem? hl)
  rw[iG ho hl]
  rw[(jr (bl:=bl) ho).2,hbx]
  refine .fr .auto (c0 (f:=fun x:Nat×Lib=>df x.1 x.2) hx) ?_
  refine .o2 (C:=df x.1 x.2) .auto rfl ?_
  rintro bs br -
  refine J 3 ?_
  refine .c call32 rfl (IK (l:=x.2) (b:=x.1) (bs:=bs) (br:=br) (p:=(i:Int)) (c:=c) hlo.1 (fun t=>hlo.2 t _)) fun u26 _=>?_
  refine .cK (fun w s=>Rd.isSl (Rd.sl .auto) w s) fun hu26=>?_
  refine .to (A:=aD (fun x:Nat×Lib=>df x.1 x.2) (xs.set n (x.1,(x.2.step (i:Int) c).2.2))) .auto (kM (f:=fun x:Nat×Lib=>df x.1 x.2) (x.1,(x.2.step (i:Int) c).2.2) hx) ?_
  have hss:=mW hxb hxs hx (x.2.step (i:Int) c).2.2
  refine .to (A:=sl bH 1 vl (xs.set n (x.1,(x.2.step (i:Int) c).2.2))) (Bs:=[sl bH 1 vl xs]) .auto (qn (hxb.trans hss.1.symm)) ?_
  refine J 1 ?_
  refine .p (.extract (v:=.agg (dx u26 (x.2.step (i:Int) c).1).toArray) rfl rfl) ?_
  refine .p (.extract (v:=.int .i64 (x.2.step (i:Int) c).2.1) rfl rfl) ?_
  refine .aj rfl (af.alloc rfl zeroValue68 rfl) ?_
  rintro _ _ ⟨b11,rfl,rfl⟩
  refine .aj rfl (af.iJ (vs:=dx u26 (x.2.step (i:Int) c).1) (by exact sizeOf68) rfl rfl (da hu26) (by rfl)) ?_
  rintro _ _ ⟨rfl,rfl⟩
  refine J 4 ?_
  refine .draw [arr b11 0 (dx u26 (x.2.step (i:Int) c).1)] [1,1,1,1,1,1,1,1,0,1,2,1] rfl (by kernel_rfl) ?_
  refine J 5 ?_
  refine .p (.ix i rfl rfl rfl (by omega)) ?_
  refine .p (.lr rfl ho) ?_
  refine J 3 ?_
  refine .d2 rfl Kept.auto (af.iJ (vs:=dx u26 (x.2.step (i:Int) c).1) (by exact sizeOf68) rfl rfl (da hu26) (by rfl)) (by rintro _ _ ⟨rfl,rfl⟩;exact Kept.auto) ?_
  rintro _ _ ⟨rfl,rfl⟩
  refine J 4 ?_
  refine .HT rfl rfl isAgg68 (by exact sizeOf68) Cells.a rfl rfl fun w s=>⟨u26,?_,trivial,ai .auto s⟩
  rfl
end Go.SLYthlllpngkljgfaaGreat
namespace Go.SLYthlllpngkljgfaaGreat
open Go Go.RowKit Go.Proofs Go.Proofs.Tryz
attribute [local irreducible] aq aS bc bx bC Y
end Go.SLYthlllpngkljgfaaGreat
namespace Go.SLYthlllpngkljgfaaGreat
open Go Go.RowKit Go.Proofs Go.Proofs.Tryz
attribute [local irreducible] aq aS bc bx bC Y
end Go.SLYthlllpngkljgfaaGreat
namespace Go.SLYthlllpngkljgfaaGreat
open Go Go.RowKit Go.Proofs Go.Proofs.Tryz
attribute [local irreducible] aq aS bc bx bC Y
end Go.SLYthlllpngkljgfaaGreat
namespace Go.SLYthlllpngkljgfaaGreat
open Go Go.RowKit Go.Proofs Go.Proofs.Tryz
attribute [local irreducible] aq aS bc bx bC Y
theorem AG{W:World}  : Fn Tryz.prog W 71 [.pointer none] [] Unit (fun _=>.int .i64 0) (fun _=>True) (fun _=>[]):=by
 refine Fn.intro (N:=10) func71 rfl ntmps71 rfl fun F=>?_
 show aq _ _ _ _ _ _ [F]
 refine J 12 ?_
 refine .fu rfl ?_
 exact JR 7 ()
end Go.SLYthlllpngkljgfaaGreat
namespace Go.SLYthlllpngkljgfaaGreat
open Go Go.RowKit Go.Proofs Go.Proofs.Tryz
attribute [local irreducible] aq aS bc bx bC Y
end Go.SLYthlllpngkljgfaaGreat
namespace Go.SLYthlllpngkljgfaaGreat
open Go Go.RowKit Go.Proofs Go.Proofs.Tryz
attribute [local irreducible] aq aS bc bx bC Y
theorem vj{W:World}{b:Nat}{bl:List Nat}{k:Krn}{A:aa}{v:Value}{prio:List Int}{turn:Int}{m:Nat}(hpr:Rd W [A] au 1 v prio)(hpl:prio.length≤1000000000)(hk:qZ m k):Fn Tryz.prog W 121 [ptr b,v,.int .i64 turn] [bS b bl k,A] Value (fun u=>u) (fun _=>True) (fun u=>[sl au 1 u (k.targets prio turn),bS b bl k,A]):=by
 refine Fn.intro (N:=14) func121 rfl ntmps121 rfl fun F=>?_
 haveI hRI:∀ (H:List aa) [bf H A],aw W H v au 1 prio:=fun H h=>⟨hpr.at h.has⟩
 show aq _ _ _ _ _ _ [bS b bl k,A,F]
 refine J 8 ?_
 refine .c call71 rfl lx fun _ _=>?_
 refine J 1 ?_
 refine .c call166 rfl (AD hk) fun u10 _=>?_
 refine J 2 ?_
 refine .c call165 rfl (Co (A:=seps [sl au 1 u10 k.demand,A]) (demand:=k.demand) (prio:=prio) (Rd.ez (Rd.sl .here)) (Rd.ez (hpr.at (.there .here))) ⟨hpl,HB hk⟩) fun u13 _=>?_
 refine J 4 ?_
 refine .dq .auto ?_
 refine .aG rfl rfl fun w s=>⟨_,?_,trivial,ai .auto s⟩
 rfl
theorem rD{W:World}{b:Nat}{bl:List Nat}{k:Krn}{A:aa}{v:Value}{prio:List Int}{turn:Int}{m:Nat}(hpr:Rd W [A] au 1 v prio)(hpl:prio.length≤1000000000)(hi:Inv m k)(hm:m≤200000000):Fn Tryz.prog W 61 [ptr b,v,.int .i64 turn] [bS b bl k,A] Unit (fun _=>.int .i64 ((k.share prio turn).2:Int)) (fun _=>True) (fun _=>[bS b bl (k.share prio turn).1,A]):=by
 refine Fn.intro (N:=73) func61 rfl ntmps61 rfl fun F=>?_
 haveI hRI:∀ (H:List aa) [bf H A],aw W H v au 1 prio:=fun H h=>⟨hpr.at h.has⟩
 show aq _ _ _ _ _ _ [bS b bl k,A,F]
 refine J 10 ?_
 refine .c call121 rfl (vj hpr hpl hi.ok) fun u17 _=>?_
 obtain⟨want,hwt⟩:∃ want,want=k.targets prio turn:=⟨_,rfl⟩
 have htf:=nB hi.ok prio turn
 have hsh:k.share prio turn=dG want 0 (takeFrom want 0 (k,0)):=by rw[hwt];rfl
 rw[← hwt] at htf ⊢
 rw[hsh]
 have hll:=hi.ok.ll
 refine J 17 ?_
 refine .bn (X:=Nat×Krn×Nat) [8,9,10,12,20,21,22,23,24,25,26,27,28,29,30,31,32,33,34,35,36,37,38,39,40,41,42,43,44,45,46,47] (fun z=>want.length-z.1) (fun z=>z.1≤want.length∧Inv (m+2 * z.2.2) z.2.1∧z.2.2≤64 * z.1∧z.2.1.libs.length=k.libs.length∧z.2.1.owner.length=k.owner.length∧takeFrom want 0 (k,0)=takeFrom (want.drop z.1) z.1 (z.2.1,z.2.2)) (fun z=>[(20,some (.int .i64 (z.1:Int))),(8,some (.int .i64 (z.2.2:Int)))]) (fun z=>[sl au 1 u17 want,bS b bl z.2.1,A,F]) (0,k,0) ?_ ?_ ?_ ?_
 ·exact⟨Nat.zero_le _,hi,Nat.zero_le _,rfl,rfl,rfl⟩
 ·exact⟨rfl,rfl,trivial⟩
 ·exact fun w s=>ax.kept .auto w s
 rintro⟨n,k1,mv⟩ ⟨hn,hi1,hmv,hl1,ho1,htk⟩
 simp only at hn hi1 hmv hl1 ho1 htk
 refine JD 6 (fun h21=>?_) fun h21=>?_
 ·refine J 6 ?_
  obtain⟨w,hw⟩:=ak (show n<want.length by omega)
  have hw64:=htf.2.1 w (List.mem_of_getElem? hw)
  obtain⟨l,hl⟩:=ak (show n<k1.libs.length by omega)
  have hlo:=hi1.ok.gY l (List.mem_of_getElem? hl)
  refine J 8 ?_
  refine .c call48 rfl gS fun _ _=>?_
  refine .o3 (C:=bS b bl k1) .auto rfl ?_
  rintro vo vl xs ⟨hxb,hxs⟩
  have hxl:=aE hxs
  have hbl:=aE hxb
  have hxx:=And.intro hxb hxs
  obtain⟨x,hx,hxe,hbx⟩:=eX hxb hxs hl
  rw[bb,hbx]
  subst hxe
  refine .fr .auto (c0 (f:=fun x:Nat×Lib=>df x.1 x.2) hx) ?_
  refine .o2 (C:=df x.1 x.2) .auto rfl ?_
  rintro bs br -
  refine .c call81 rfl (qK (l:=x.2) (Nat.le_trans hlo.vl (by decide))) fun u26 _=>?_
  refine .to (A:=aD (fun x:Nat×Lib=>df x.1 x.2) xs) .auto (eW (f:=fun x:Nat×Lib=>df x.1 x.2) hx) ?_
  refine .to (A:=bS b bl k1) .auto HC ?_
  refine J 11 ?_
  refine .p (.lr rfl hw) ?_
  refine .p (.jK rfl rfl) ?_
  refine .p (.sliceFrom (min x.2.procs.length w.toNat) underlying50 sizeOf3 rfl rfl Rd.s (by omega) (by omega)) ?_
  obtain⟨ps,hps⟩:∃ ps,ps=x.2.procs.drop w.toNat:=⟨_,rfl⟩
  have hpl64:x.2.procs.length≤64:=Nat.le_trans (ql _ _) hlo.vl
  have hpsl:ps.length≤64:=by rw[hps,List.length_drop];omega
  have hcut:=(Rd.sl (W:=W) (H:=[sl au 1 u26 x.2.procs]) .here).cut (lo:=min x.2.procs.length w.toNat) (hi:=x.2.procs.length) (by omega) (Nat.le_refl _)
  rw[List.take_length,HD, ← hps] at hcut
  haveI hIc:∀ (H:List aa) [bf H (sl au 1 u26 x.2.procs)],aw W H (cut 1 (min x.2.procs.length w.toNat) x.2.procs.length u26) au 1 ps:=fun H h=>⟨hcut.at h.has⟩
  refine J 5 ?_
  refine .bn (X:=Nat×Krn) [8,12,37,38,39,40,41,42,43,44,45,46] (fun z=>ps.length-z.1) (fun z=>z.1≤ps.length∧Inv (m+2 * (mv+z.1)) z.2∧z.2.libs.length=k.libs.length∧z.2.owner.length=k.owner.length∧eB (ps.drop z.1) z.2=eB ps k1) (fun z=>[(37,some (.int .i64 (z.1:Int))),(8,some (.int .i64 ((mv+z.1:Nat):Int)))]) (fun z=>[sl au 1 u26 x.2.procs,sl au 1 u17 want,bS b bl z.2,A,F]) (0,k1) ?_ ?_ ?_ ?_
  ·exact⟨Nat.zero_le _,hi1,hl1,ho1,rfl⟩
  ·exact⟨rfl,rfl,trivial⟩
  ·exact fun w s=>ax.kept .auto w s
  rintro⟨j,k2⟩ ⟨hj,hi2,hl2,ho2,hta⟩
  simp only at hj hi2 hl2 ho2 hta
  refine JD 6 (fun h38=>?_) fun h38=>?_
  ·refine J 6 ?_
   obtain⟨p,hp⟩:=ak (show j<ps.length by omega)
   refine J 9 ?_
   refine .c call122 rfl (Fv (k:=k2) hi2.ok (by omega)) fun _ _=>?_
   refine J 4 ?_
   refine .p (.fq (Y.add rfl rfl (by dsimp only;omega)) (show((mv+j:Nat):Int)+1=((mv+(j+1):Nat):Int) from by omega)) ?_
   refine J 8 ?_
   refine .aL (j+1,(k2.take p).2) .auto rfl ?_ ?_ ?_ ?_
   ·show ps.length-(j+1)<ps.length-j;omega
   ·exact⟨by show j+1≤_;omega,hi2.take p,(m0 hi2.ok p).1.trans hl2,(m0 hi2.ok p).2.trans ho2,by rw[← hta,drop_cons hp];rfl⟩
   ·exact⟨rfl,rfl,trivial⟩
   ·exact fun w s=>ax.kept .auto w s
  ·obtain rfl:j=ps.length:=by omega
   rw[List.drop_length] at hta
   refine J 10 ?_
   refine .aL (n+1,k2,mv+ps.length) .auto rfl ?_ ?_ ?_ ?_
   ·show want.length-(n+1)<want.length-n;omega
   ·exact⟨by show n+1≤_;omega,hi2,by show mv+ps.length≤64 * (n+1);omega,hl2,ho2,by rw[htk,EK hw hl hps, ← hta];rfl⟩
   ·exact⟨rfl,rfl,trivial⟩
   ·exact fun w s=>ax.kept .auto w s
 ·obtain rfl:n=want.length:=by omega
  rw[List.drop_length,takeFrom] at htk
  have hrm:want≠[]→Room want k1:=fun hne=>by have:=EJ hi (htf.2.2.2 hne) htf.2.2.1;rw[htk] at this;exact this
  rw[htk]
  have hmv5:mv≤512:=by omega
  refine J 14 ?_
  refine .bn (X:=Nat×Krn×Nat) [8,13,50,51,52,53,54,55,56,57,58,59,60,61,62,63,64,65,66,67,68,69,70,71] (fun z=>want.length-z.1) (fun z=>z.1≤want.length∧Inv (m+2 * z.2.2) z.2.1∧z.2.2≤512+64 * z.1∧z.2.1.libs.length=k.libs.length∧(want≠[]→Room want z.2.1)∧dG want 0 (k1,mv)=dG (want.drop z.1) z.1 (z.2.1,z.2.2)) (fun z=>[(50,some (.int .i64 (z.1:Int))),(8,some (.int .i64 (z.2.2:Int)))]) (fun z=>[sl au 1 u17 want,bS b bl z.2.1,A,F]) (0,k1,mv) ?_ ?_ ?_ ?_
  ·exact⟨Nat.zero_le _,hi1,by show mv≤512+64 * 0;omega,hl1,hrm,rfl⟩
  ·exact⟨rfl,rfl,trivial⟩
  ·exact fun w s=>ax.kept .auto w s
  rintro⟨n,k3,mv3⟩ ⟨hn3,hi3,hmv3,hl3,hr3,hgv⟩
  simp only at hn3 hi3 hmv3 hl3 hr3 hgv
  refine JD 6 (fun h51=>?_) fun h51=>?_
  ·refine J 6 ?_
   obtain⟨w,hw⟩:=ak (show n<want.length by omega)
   have hw64:=htf.2.1 w (List.mem_of_getElem? hw)
   have hne:want≠[]:=by rintro rfl;simp at hw
   refine J 5 ?_
   refine .bn (X:=Nat×Krn) [8,13,53,54,55,56,57,58,59,60,61,62,63,64,65,66,67,68,69,70] (fun z=>w.toNat-z.2.owner.count (n:Int)) (fun z=>Inv (m+2 * (mv3+z.1)) z.2∧Room want z.2∧z.2.libs.length=k.libs.length∧z.1+(w.toNat-z.2.owner.count (n:Int))=w.toNat-k3.owner.count (n:Int)∧giveTo (w.toNat-z.2.owner.count (n:Int)) (n:Int) z.2=giveTo (w.toNat-k3.owner.count (n:Int)) (n:Int) k3) (fun z=>[(13,some (.int .i64 (n:Int))),(8,some (.int .i64 ((mv3+z.1:Nat):Int)))]) (fun z=>[sl au 1 u17 want,bS b bl z.2,A,F]) (0,k3) ?_ ?_ ?_ ?_
   ·exact⟨hi3,hr3 hne,hl3,by simp,rfl⟩
   ·exact⟨rfl,rfl,trivial⟩
   ·exact fun w s=>ax.kept .auto w s
   rintro⟨j,k2⟩ ⟨hi2,hr2,hlk2,hjc,hgt⟩
   simp only at hi2 hr2 hlk2 hjc hgt
   refine J 2 ?_
   refine .draw [sl au 1 u17 want] [1,1,2,2,1,0,0,0,0,1] rfl (by kernel_rfl) ?_
   have hnl2:n<k2.libs.length:=by omega
   obtain⟨l2,hl2⟩:=ak hnl2
   refine J 2 ?_
   refine .c2 call48 rfl gS fun _ _=>?_
   refine .o3 (C:=bS b bl k2) .auto rfl ?_
   rintro vo vl xs ⟨hxb,hxs⟩
   have hxl:=aE hxs
   have hbl:=aE hxb
   have hxx:=And.intro hxb hxs
   obtain⟨x,hx,hxe,hbx⟩:=eX hxb hxs hl2
   rw[bb,hbx]
   subst hxe
   refine .fr .auto (c0 (f:=fun x:Nat×Lib=>df x.1 x.2) hx) ?_
   refine .o2 (C:=df x.1 x.2) .auto rfl ?_
   rintro bs br -
   refine .c2 call81 rfl (qK (l:=x.2) (Nat.le_trans (hi2.ok.gY x.2 (List.mem_of_getElem? hl2)).vl (by decide))) fun u56 _=>?_
   refine .to (A:=aD (fun x:Nat×Lib=>df x.1 x.2) xs) .auto (eW (f:=fun x:Nat×Lib=>df x.1 x.2) hx) ?_
   refine .to (A:=bS b bl k2) .auto HC ?_
   refine J 4 ?_
   refine .q (.lr rfl hw) ?_
   refine JD 3 (fun h62=>?_) fun h62=>?_
   ·have hpc:x.2.procs.length=k2.owner.count (n:Int):=by rw[hi2.ag.procs hl2];exact iV _ _ _
    have hlt:k2.owner.count (n:Int)<w.toNat:=by omega
    obtain⟨i,r,hf,hoi,hmin⟩:=EI (hr2.free hi2.ok hw hlt)
    have hol:=hi2.ok.ol
    have hfl:k2.free.length≤64:=Nat.le_trans (by rw[show k2.free=posFrom (-1) k2.owner 0 from pn _ _,iV];exact List.count_le_length) hol
    have hrg:=hr2.eP hw hlt hoi hl2
    refine J 7 ?_
    refine .c call27 rfl (Fu (k:=k2) hol) fun u65 _=>?_
    refine .c call124 rfl (NW (A:=sl au 1 u65 k2.free) (xs:=k2.free) (Rd.sl .here) (by omega) (by rw[hf];simp)) fun _ _=>?_
    rw[hmin]
    refine J 1 ?_
    refine .c call123 rfl (Fw (k:=k2) (p:=(i:Int)) (n:=(n:Int)) hi2.ok (by omega)) fun _ _=>?_
    refine J 4 ?_
    refine .p (.fq (Y.add rfl rfl (by dsimp only;omega)) (show((mv3+j:Nat):Int)+1=((mv3+(j+1):Nat):Int) from by omega)) ?_
    refine J 3 ?_
    refine .aL (j+1,(k2.eP (i:Int) (n:Int)).2) .auto rfl ?_ ?_ ?_ ?_
    ·show w.toNat-(k2.eP (i:Int) (n:Int)).2.owner.count (n:Int)<w.toNat-k2.owner.count (n:Int);rw[hrg.2];omega
    ·exact⟨hi2.eP hoi hl2,hrg.1,hrg.1.len.symm.trans (hr2.len.trans hlk2),by show j+1+(w.toNat-(k2.eP (i:Int) (n:Int)).2.owner.count (n:Int))=_;rw[hrg.2];omega,by show giveTo (w.toNat-(k2.eP (i:Int) (n:Int)).2.owner.count (n:Int)) (n:Int) (k2.eP (i:Int) (n:Int)).2=_;rw[hrg.2, ← hgt,show w.toNat-k2.owner.count (n:Int)=(w.toNat-(k2.owner.count (n:Int)+1))+1 from by omega,giveTo,hf];rfl⟩
    ·exact⟨rfl,rfl,trivial⟩
    ·exact fun w s=>ax.kept .auto w s
   ·have hpc:x.2.procs.length=k2.owner.count (n:Int):=by rw[hi2.ag.procs hl2];exact iV _ _ _
    have hge:w.toNat-k2.owner.count (n:Int)=0:=by omega
    rw[hge] at hjc hgt
    refine J 10 ?_
    refine .aL (n+1,k2,mv3+j) .auto rfl ?_ ?_ ?_ ?_
    ·show want.length-(n+1)<want.length-n;omega
    ·exact⟨by show n+1≤_;omega,hi2,by show mv3+j≤512+64 * (n+1);omega,hlk2,fun _=>hr2,by rw[hgv,EL hw hi3 (by omega), ← hgt, ← hjc];rfl⟩
    ·exact⟨rfl,rfl,trivial⟩
    ·exact fun w s=>ax.kept .auto w s
  ·obtain rfl:n=want.length:=by omega
   rw[List.drop_length,dG] at hgv
   refine J 12 ?_
   rw[hgv]
   exact JR 0 ()
end Go.SLYthlllpngkljgfaaGreat
namespace Go.SLYthlllpngkljgfaaGreat
open Go Go.RowKit Go.Proofs Go.Proofs.Tryz
attribute [local irreducible] aq aS bc bx bC Y
end Go.SLYthlllpngkljgfaaGreat
namespace Go.SLYthlllpngkljgfaaGreat
open Go Go.RowKit Go.Proofs Go.Proofs.Tryz
attribute [local irreducible] aq aS bc bx bC Y
end Go.SLYthlllpngkljgfaaGreat
namespace Go.SLYthlllpngkljgfaaGreat
open Go Go.RowKit Go.Proofs Go.Proofs.Tryz
attribute [local irreducible] aq aS bc bx bC Y
theorem uD{W:World}{b bs br:Nat}{l:Lib}{A:aa}{v:Value}{ts:List Int}(hr:Rd W [A] au 1 v ts)(htl:ts.length≤1000000)(hl:l.waiting.length≤400000000∧l.vs.length≤1000000000∧ ∀ y∈l.vs,y.evs.length≤400000000):Fn Tryz.prog W 126 [ptr b,v] [bJ b bs br l,A] Unit (fun _=>.tuple #[]) (fun _=>True) (fun _=>[bJ b bs br (l.tell (aH ts)),A]):=by
 refine Fn.intro (N:=22) func126 rfl ntmps126 rfl fun F=>?_
 haveI hRI:∀ (H:List aa) [bf H A],aw W H v au 1 ts:=fun H h=>⟨hr.at h.has⟩
 show aq _ _ _ _ _ _ [bJ b bs br l,A,F]
 refine J 14 ?_
 refine .bn (X:=Nat×Value) [4,6,9,10,11,12,13,14,15,16,17,18] (fun z=>ts.length-z.1) (fun z=>z.1≤ts.length) (fun z=>[(9,some (.int .i64 (z.1:Int))),(4,some z.2)]) (fun z=>[sl cr 3 z.2 (aH (ts.take z.1)),bJ b bs br l,A,F]) (0,.slice none 0 0) ?_ ?_ ?_ ?_
 ·exact Nat.zero_le _
 ·exact⟨rfl,rfl,trivial⟩
 ·exact fun w s=>ax.kept .auto w s
 rintro⟨k,u⟩ hk
 simp only at hk
 refine JD 6 (fun h10=>?_) fun h10=>?_
 ·refine J 6 ?_
  obtain⟨n,hx⟩:=ak (show k<ts.length by omega)
  refine J 8 ?_
  refine .p (.gr (fun v1 v2=>[v1,v2,(.int .i64 0)]) rfl rfl (by kernel_rfl)) ?_
  refine .aj rfl (af.gI 87 rfl rfl (by kernel_rfl)) ?_
  rintro _ _ ⟨b16,rfl,rfl⟩
  refine .aj rfl (af.gg (enc:=cr) (k:=3) (⟨3,n,0⟩:Ev) rfl underlying75 underlying75 typeInfo87 rfl rfl rfl (by decide) rfl rfl rfl .auto rfl .auto (by unfold aH;rw[List.length_map,List.length_take];omega) rfl) ?_
  rintro _ _ ⟨v17,rfl,rfl⟩
  refine J 8 ?_
  refine .aL (k+1,v17) .auto rfl ?_ ?_ ?_ ?_
  ·show ts.length-(k+1)<ts.length-k;omega
  ·show k+1≤_;omega
  ·exact⟨rfl,rfl,trivial⟩
  ·show ∀ w,Sat _ w _→Sat _ w (seps [sl cr 3 v17 (aH (ts.take (k+1))),bJ b bs br l,A,F])
   rw[zi hx]
   exact fun w s=>ax.kept .auto w s
 ·refine J 8 ?_
  obtain rfl:k=ts.length:=by omega
  rw[List.take_length]
  refine .c call37 rfl (mE (l:=l) (A:=sl cr 3 u (aH ts)) (Rd.sl .here) ⟨by rw[gm];omega,hl⟩) fun _ _=>?_
  exact JR 1 ()
theorem yx{W:World}{b:Nat}{bl:List Nat}{k:Krn}{p:Int}{m:Nat}(hk:nk m k):Fn Tryz.prog W 67 [ptr b,.int .i64 p] [bS b bl k] Unit (fun _=>.int .i64 (k.preempt p).1) (fun _=>True) (fun _=>[bS b bl (k.preempt p).2]):=by
 refine Fn.intro (N:=19) func67 rfl ntmps67 rfl fun F=>?_
 show aq _ _ _ _ _ _ [bS b bl k,F]
 refine J 9 ?_
 refine .c call127 rfl (qO hk.ok) fun _ _=>?_
 refine JD 14 (fun h14=>?_) fun h14=>?_
 ·refine .o3 (C:=bS b bl k) .auto rfl ?_
  rintro vo vl xs ⟨hxb,hxs⟩
  have hxl:=aE hxs
  have hbl:=aE hxb
  have hxx:=And.intro hxb hxs
  obtain⟨i,n,l,rfl,ho,hl, -⟩:=dy hk.ok h14
  obtain⟨x,hx,rfl,hbx⟩:=eX hxb hxs hl
  have hlo:=hk.gY x.2 (List.mem_of_getElem? hl)
  rw[pM ho hl]
  rw[(jr (bl:=bl) ho).2,(jr (bl:=bl) ho).1,hbx]
  refine .fr .auto (c0 (f:=fun x:Nat×Lib=>df x.1 x.2) hx) ?_
  refine .o2 (C:=df x.1 x.2) .auto rfl ?_
  rintro bs br -
  refine J 3 ?_
  refine .c call35 rfl (AA (l:=x.2) (b:=x.1) (bs:=bs) (br:=br) (p:=(i:Int)) hlo.1) fun _ _=>?_
  refine .to (A:=aD (fun x:Nat×Lib=>df x.1 x.2) (xs.set n (x.1,(x.2.preempt (i:Int)).2))) .auto (kM (f:=fun x:Nat×Lib=>df x.1 x.2) (x.1,(x.2.preempt (i:Int)).2) hx) ?_
  have hss:=mW hxb hxs hx (x.2.preempt (i:Int)).2
  refine .to (A:=sl bH 1 vl (xs.set n (x.1,(x.2.preempt (i:Int)).2))) (Bs:=[sl bH 1 vl xs]) .auto (qn (hxb.trans hss.1.symm)) ?_
  exact JR 9 ()
 ·refine J 9 ?_
  rw[my h14]
  exact JR 0 ()
theorem Fy{W:World}{b:Nat}{bl:List Nat}{k:Krn}{q c:Int}{m:Nat}(hk:nk m k):Fn Tryz.prog W 66 [ptr b,.int .i64 q,.int .i64 c] [bS b bl k] Unit (fun _=>.int .i64 (k.done q c).1) (fun _=>True) (fun _=>[bS b bl (k.done q c).2]):=by
 refine Fn.intro (N:=27) func66 rfl ntmps66 rfl fun F=>?_
 show aq _ _ _ _ _ _ [bS b bl k,F]
 refine J 9 ?_
 refine .c call48 rfl gS fun _ _=>?_
 refine JD 10 (fun h14=>?_) fun h14=>?_
 ·refine .o3 (C:=bS b bl k) .auto rfl ?_
  rintro vo vl xs ⟨hxb,hxs⟩
  have hxl:=aE hxs
  have hbl:=aE hxb
  have hxx:=And.intro hxb hxs
  rw[pN (H7 (ke hxb hxs) h14)]
  exact JR 7 ()
 ·refine .o3 (C:=bS b bl k) .auto rfl ?_
  rintro vo vl xs ⟨hxb,hxs⟩
  have hxl:=aE hxs
  have hbl:=aE hxb
  have hxx:=And.intro hxb hxs
  obtain⟨j,x,rfl,hx,hl,hbx⟩:=H8 hxb hxs h14
  have hlo:=hk.gY x.2 (List.mem_of_getElem? hl)
  have hdw:=od x.2.aO c
  rw[mz hl,bb,hbx]
  refine .fr .auto (c0 (f:=fun x:Nat×Lib=>df x.1 x.2) hx) ?_
  refine .o2 (C:=df x.1 x.2) .auto rfl ?_
  rintro bs br -
  refine J 5 ?_
  refine .c call49 rfl (jj (b:=x.1) (bs:=bs) (br:=br) (l:=x.2)) fun _ _=>?_
  refine J 1 ?_
  refine .o2 (C:=bJ x.1 bs br x.2) .auto rfl ?_
  rintro vv vw -
  refine .c call36 rfl (wY (b:=bs) (s:=x.2.aO) (k:=c) hlo.1.sp) fun u19 _=>?_
  refine .cK (fun w s=>Rd.isSl (Rd.sl .auto) w s) fun hu19=>?_
  refine J 1 ?_
  refine .p (.extract (v:=.agg (nS u19 (x.2.aO.done c).1).toArray) rfl rfl) ?_
  refine .p (.extract (v:=.int .i64 (x.2.aO.done c).2.1) rfl rfl) ?_
  refine .aj rfl (af.alloc rfl zeroValue66 rfl) ?_
  rintro _ _ ⟨b8,rfl,rfl⟩
  refine .aj rfl (af.iJ (vs:=nS u19 (x.2.aO.done c).1) (by exact sizeOf66) rfl rfl (Dr hu19) (by rfl)) ?_
  rintro _ _ ⟨rfl,rfl⟩
  refine J 8 ?_
  refine .c call126 rfl (uD (l:=({x.2 with aO:=(x.2.aO.done c).2.2 }:Lib)) (b:=x.1) (bs:=bs) (br:=br) (A:=sl au 1 u19 (x.2.aO.done c).1.ar) (Rd.sl .here) (by omega) ⟨Nat.le_trans hlo.1.wt (by decide),Nat.le_trans hlo.1.vl (by decide),fun y hy=>Nat.le_trans (hlo.1.ev y hy) (by decide)⟩) fun _ _=>?_
  refine .to (A:=aD (fun x:Nat×Lib=>df x.1 x.2) (xs.set j (x.1,(x.2.fH c)))) .auto (kM (f:=fun x:Nat×Lib=>df x.1 x.2) (x.1,(x.2.fH c)) hx) ?_
  have hss:=mW hxb hxs hx (x.2.fH c)
  refine .to (A:=sl bH 1 vl (xs.set j (x.1,(x.2.fH c)))) (Bs:=[sl bH 1 vl xs]) .auto (qn (hxb.trans hss.1.symm)) ?_
  exact JR 9 ()
theorem Fz{W:World}{b:Nat}{bl:List Nat}{k:Krn}{m:Nat}(hk:nk m k):Fn Tryz.prog W 65 [ptr b] [bS b bl k] Unit (fun _=>.tuple #[]) (fun _=>True) (fun _=>[bS b bl k.tick]):=by
 refine Fn.intro (N:=27) func65 rfl ntmps65 rfl fun F=>?_
 show aq _ _ _ _ _ _ [bS b bl k,F]
 have hll:=hk.ok.ll
 refine J 3 ?_
 refine .c call105 rfl jT fun _ _=>?_
 refine J 4 ?_
 refine .bn (X:=Nat) [2,5,6,7,8,9,10,11,12,13,14,15,16,17,18,19,20,21,22,23,24,25,26] (fun j=>k.libs.length-j) (fun j=>j≤k.libs.length) (fun j=>[(5,some (.int .i64 (j:Int)))]) (fun j=>[bS b bl (k.mA j),F]) 0 ?_ ?_ ?_ ?_
 ·exact Nat.zero_le _
 ·exact⟨rfl,trivial⟩
 ·rw[E3];exact fun w s=>ax.kept .auto w s
 rintro j hj
 refine JD 6 (fun h6=>?_) fun h6=>?_
 ·obtain⟨l,hl⟩:=ak (show j<k.libs.length by omega)
  have hlt:=J4 hl
  refine .o3 (C:=bS b bl (k.mA j)) .auto rfl ?_
  rintro vo vl xs ⟨hxb,hxs⟩
  have hxx:=And.intro hxb hxs
  obtain⟨x,hx,rfl,hbx⟩:=eX hxb hxs hlt
  have hil:=(List.getElem?_eq_some_iff.1 hx).1
  have hlo:=hk.gY x.2 (List.mem_of_getElem? hl)
  have hdu:=Nat.le_trans (pg x.2.aO.aT) hlo.1.sp.wl
  have hst:=H6 hl
  refine J 10 ?_
  refine .draw [arr b 0 [vo,vl],sl bH 1 vl xs] [0,0,0,0,0,0,0,1,1,1,1,1,1,1,2,2,1,3] rfl (by kernel_rfl) ?_
  refine J 5 ?_
  refine .q (.ix j rfl rfl rfl hil) ?_
  refine .q (.lr rfl hx) ?_
  refine J 5 ?_
  refine .p (.ix j rfl rfl rfl hil) ?_
  refine .p (.lr rfl hx) ?_
  refine .fr .auto (c0 (f:=fun x:Nat×Lib=>df x.1 x.2) hx) ?_
  refine .o2 (C:=df x.1 x.2) .auto rfl ?_
  rintro bs br -
  refine .c2 call49 rfl (jj (b:=x.1) (bs:=bs) (br:=br) (l:=x.2)) fun _ _=>?_
  refine .o2 (C:=bJ x.1 bs br x.2) .auto rfl ?_
  rintro vv vw -
  refine .c2 call39 rfl (wZ (b:=bs) (s:=x.2.aO) hlo.1.sp) fun u23 _=>?_
  refine .p (.field 0 50 underlying66 rfl isAgg50 rfl rfl) ?_
  refine .c call126 rfl (uD (l:=({x.2 with aO:=x.2.aO.tick.2 }:Lib)) (b:=x.1) (bs:=bs) (br:=br) (A:=sl au 1 u23 x.2.aO.aT.due) (Rd.sl .here) hdu ⟨Nat.le_trans hlo.1.wt (by decide),Nat.le_trans hlo.1.vl (by decide),fun y hy=>Nat.le_trans (hlo.1.ev y hy) (by decide)⟩) fun _ _=>?_
  refine .to (A:=aD (fun x:Nat×Lib=>df x.1 x.2) (xs.set j (x.1,x.2.cA))) .auto (kM (f:=fun x:Nat×Lib=>df x.1 x.2) (x.1,x.2.cA) hx) ?_
  have hss:=mW hxb hxs hx x.2.cA
  refine .to (A:=sl bH 1 vl (xs.set j (x.1,x.2.cA))) (Bs:=[sl bH 1 vl xs]) .auto (qn (hxb.trans hss.1.symm)) ?_
  rw[hst] at hss
  refine J 7 ?_
  refine .aL (j+1) .auto rfl ?_ ?_ ?_ ?_
  ·omega
  ·show j+1≤_;omega
  ·exact⟨rfl,trivial⟩
  ·exact fun w s=>ax.kept .auto w s
 ·refine J 4 ?_
  obtain rfl:j=k.libs.length:=by omega
  rw[H5]
  exact JR 0 ()
end Go.SLYthlllpngkljgfaaGreat
namespace Go.SLYthlllpngkljgfaaGreat
open Go Go.RowKit
def AX(b:Nat)(s:Sy):aa:=nI (fun _ _=>True) fun(kb:Nat) (bl:List Nat)=>[fb b kb bl s]
theorem do_1{s:Sy}{x:uf}(h:x.kind=1):s.do x=s.rv x.a x.b:=by unfold Sy.do;rw[if_pos h]
theorem NZ{s:Sy}{x:uf}(h1:¬x.kind=1)(h:x.kind=2):s.do x=(0,s.wa):=by unfold Sy.do;rw[if_neg h1,if_pos h]
theorem Ng{s:Sy}{x:uf}(h1:¬x.kind=1)(h2:¬x.kind=2)(h:x.kind=3):s.do x=s.nz x.a x.b:=by unfold Sy.do;rw[if_neg h1,if_neg h2,if_pos h]
theorem N0{s:Sy}{x:uf}(h1:¬x.kind=1)(h2:¬x.kind=2)(h3:¬x.kind=3)(h:x.kind=4):s.do x=((s.k.preempt x.a).1,⟨(s.k.preempt x.a).2,s.prio,s.turn,s.log⟩):=by unfold Sy.do;rw[if_neg h1,if_neg h2,if_neg h3,if_pos h]
theorem N1{s:Sy}{x:uf}(h1:¬x.kind=1)(h2:¬x.kind=2)(h3:¬x.kind=3)(h4:¬x.kind=4)(h:x.kind=5):s.do x=(0,⟨s.k,s.prio,x.a,s.log⟩):=by unfold Sy.do;rw[if_neg h1,if_neg h2,if_neg h3,if_neg h4,if_pos h]
theorem N2{s:Sy}{x:uf}(h1:¬x.kind=1)(h2:¬x.kind=2)(h3:¬x.kind=3)(h4:¬x.kind=4)(h5:¬x.kind=5)(h:x.kind=6):s.do x=(0,⟨(s.k.share s.prio s.turn).1,s.prio,s.turn,s.log⟩):=by unfold Sy.do;rw[if_neg h1,if_neg h2,if_neg h3,if_neg h4,if_neg h5,if_pos h]
theorem N3{s:Sy}{x:uf}(h1:¬x.kind=1)(h2:¬x.kind=2)(h3:¬x.kind=3)(h4:¬x.kind=4)(h5:¬x.kind=5)(h6:¬x.kind=6):s.do x=(1,s):=by unfold Sy.do;rw[if_neg h1,if_neg h2,if_neg h3,if_neg h4,if_neg h5,if_neg h6]
theorem qP{s:Sy}{p c:Int}(h:(s.k.step p c).1.2.1.aK=true):(s.rv p c).2=⟨(s.k.step p c).2,s.prio,s.turn,s.log++[⟨1,(s.k.step p c).1.1,(s.k.step p c).1.2.1.slot,c⟩]⟩:=by unfold Sy.rv jQ;rw[if_pos h]
theorem uE{s:Sy}{p c:Int}(h:(s.k.step p c).1.2.1.aK=false):(s.rv p c).2=⟨(s.k.step p c).2,s.prio,s.turn,s.log⟩:=by unfold Sy.rv jQ;rw[if_neg (by rw[h];simp),List.append_nil]
theorem FA{s:Sy}{n c:Int}(h:(s.k.done n c).1=0):(s.nz n c).2=⟨(s.k.done n c).2,s.prio,s.turn,s.log++[⟨2,n,0,c⟩]⟩:=by unfold Sy.nz;rw[if_pos h]
theorem IM{s:Sy}{n c:Int}(h:¬(s.k.done n c).1=0):(s.nz n c).2=⟨(s.k.done n c).2,s.prio,s.turn,s.log⟩:=by unfold Sy.nz;rw[if_neg h,List.append_nil]
def Sy.av(s:Sy)(n:Int):List Rec:=match aB s.k.libs n with | none=>[] | some l=>l.aO.av
def Sy.mem(s:Sy)(n:Int):List Int:=match aB s.k.libs n with | none=>[] | some l=>l.aO.mem
theorem ss{s:Sy}{n:Int}(h:aB s.k.libs n=none):s.av n=[]∧s.mem n=[]:=by unfold Sy.av Sy.mem;rw[h];exact⟨rfl,rfl⟩
theorem DH{s:Sy}{j:Nat}{l:Lib}(h:s.k.libs[j]?=some l):s.av (j:Int)=l.aO.av∧s.mem (j:Int)=l.aO.mem:=by unfold Sy.av Sy.mem;rw[bb,h];exact⟨rfl,rfl⟩
theorem Ku{m:Nat}{s:Sy}(h:nk m s.k)(n:Int):(s.av n).length≤1000000000∧(s.mem n).length≤1000000000:=by
 cases e:aB s.k.libs n with
 | none=>rw[(ss e).1,(ss e).2];exact⟨Nat.zero_le _,Nat.zero_le _⟩
 | some l =>
  obtain⟨-, -,hl⟩:=bF e
  have hs:=(h.gY l (List.mem_of_getElem? hl)).1.sp
  unfold Sy.av Sy.mem
  rw[e]
  exact⟨Nat.le_trans hs.av (by decide),Nat.le_trans hs.mem (by decide)⟩
end Go.SLYthlllpngkljgfaaGreat
namespace Go.SLYthlllpngkljgfaaGreat
open Go Go.RowKit
def OM(b:Nat)(k:Krn)(prio:List Int):aa:=nI (fun _ _=>True) fun(kb:Nat) (v:Value)=>[arr b 0 [ptr kb,v,.int .i64 0,.slice none 0 0],Gz kb k,sl au 1 v prio]
def N4:Krn:=Krn.new 1 [I5,I5]
def N5:Krn:=(N4.share [0,0] 0).1
def ON:Lib:=N5.libs.getD 0 Ba
def OO:Lib:=N5.libs.getD 1 Ba
def OP(k:Krn):Bool:=k.libs.all fun l=>l.vs.all (fun v=>decide (v.evs.length≤1000000)) && decide (l.waiting.length≤1000000) && decide (l.rows.length≤64) && l.rows.all (fun r=>decide (r.length≤1000000))
theorem FB{ps:List aN}{n:Nat}{x:aN}(h:ps[n]?=some x):(ps.take (n+1)).map (·.prio)=(ps.take n).map (·.prio)++[x.prio]:=by rw[aX h,List.map_append];rfl
end Go.SLYthlllpngkljgfaaGreat
