/- Walks of functions, and what they compute. Conditions: none, this text proves no statement. -/
import Derived.Test.YtefdijgllbkmfaaGreatH06
import Derived.Test.YtefdijgllbkmfaaGreatProg
import Derived.KernelRfl
set_option maxRecDepth 20000
set_option maxHeartbeats 4000000
namespace Go.SLYtefdijgllbkmfaaGreat
open Go Go.RowKit Go.Proofs Go.Proofs.Tryz
attribute [local irreducible] ax aQ bu cj bQ Y
theorem o0{W:World}{c:Int}{n:Nat}(hn:0<n)(hb:n≤1000000000):Fn Tryz.prog W 94 [.int .i64 c,.int .i64 (n:Int)] [] Unit (fun _=>.int .i64 (pick c n:Int)) (fun _=>True) (fun _=>[]):=by
 refine Fn.intro (N:=15) func94 rfl ntmps94 rfl fun F=>?_
 show ax _ _ _ _ _ _ [F]
 have hpk:=Fo (c:=c) hn
 refine J 9 ?_
 refine .p (.rem rfl rfl (by omega)) ?_
 refine JD 10 (fun h10=>?_) fun h10=>?_
 ·refine J 3 ?_
  refine .p (.add rfl rfl (by omega)) ?_
  refine J 10 ?_
  refine .aC rfl rfl fun w s=>⟨(),?_,trivial,ar .auto s⟩
  rw[hpk,if_pos h10]
 ·refine J 9 ?_
  refine .aC rfl rfl fun w s=>⟨(),?_,trivial,ar .auto s⟩
  rw[hpk,if_neg h10]
theorem uB{W:World}{b:Nat}{v:RV}{s:RSp}{f arg:Int}:Fn Tryz.prog W 68 [ptr b,.int .i64 f,.int .u64 arg] [bV b v s] Unit (fun _=>.int .i64 (s.begin f arg).1) (fun _=>True) (fun _=>[bV b v (s.begin f arg).2]):=by
 refine Fn.intro (N:=56) func68 rfl ntmps68 rfl fun F=>?_
 show ax _ _ _ _ _ _ [bV b v s,F]
 refine .fr (A:=bV b v s) .auto bx ?_
 refine J 12 ?_
 refine .cM (X:=Nat) [6,7,8,9,10,11,12,13,14,15,16,17,18,19,20,21,22,23,24,25,26,27,28,29,30,31,32,33,34,35,36,37,38,39,40,41,42,43,44,45,46,47,48,49,50,51,52,53,54,55] (fun n=>16-n) (fun n=>n≤16∧rFree? s.thr (16-n) n=rFree? s.thr 16 0) (fun n=>[(7,some (.int .i64 (n:Int)))]) (fun n=>[bV b v s,F]) 0 ?_ ?_ ?_ ?_
 ·exact⟨Nat.zero_le _,rfl⟩
 ·exact⟨rfl,trivial⟩
 ·exact fun w s=>aK.kept .auto w s
 rintro n ⟨hn,hf⟩
 refine .fr (A:=bV b v s) .auto bx ?_
 refine JD 7 (fun h9=>?_) fun h9=>?_
 ·refine J 11 ?_
  refine .p (.aD _ underlying54 sizeOf53 rfl rfl rfl (by first | omega | exact hn | decide)) ?_
  refine J 1 ?_
  refine .p (.ld rfl (Cell.tz (by first | omega | exact hn))) ?_
  refine JD 2 (fun h18=>?_) fun h18=>?_
  ·refine J 9 ?_
   refine .bf (n+1) .auto rfl ?_ ?_ ?_ ?_
   ·omega
   ·refine⟨by show n+1≤_;omega,?_⟩
    rw[← hf,show 16-n=(16-(n+1))+1 from by omega]
    show _=rFree? s.thr ((16-(n+1))+1) n
    rw[rFree?,if_pos h18]
   ·exact⟨rfl,trivial⟩
   ·exact fun w s=>aK.kept .auto w s
  ·have hb:s.begin f arg=((n:Int),s.begun n f arg):=by
    unfold RSp.begin
    rw[← hf,show 16-n=(16-(n+1))+1 from by omega,rFree?,if_neg (by rw[h18];simp)]
   refine J 3 ?_
   refine .draw [arr b 8 (ny s.taken)] [1,1,1,1,1,1,1,1,1,1,3] rfl (by kernel_rfl) ?_
   refine J 4 ?_
   refine .p (.aD _ underlying51 sizeOf38 rfl rfl rfl (by first | omega | exact hn | decide)) ?_
   refine .p (.ld rfl (Cell.tk (by omega))) ?_
   refine .p (.yZ rfl rfl) ?_
   refine J 2 ?_
   refine .p (.aD _ underlying51 sizeOf38 rfl rfl rfl (by first | omega | exact hn | decide)) ?_
   refine .d3 rfl (af.L5 sizeOf38 rfl rfl (by omega)) ?_
   rintro _ _ ⟨rfl,rfl⟩
   refine J 3 ?_
   refine .draw [arr b 8 (ny (dU s.taken n (gU (s.taken n+1))))] [1,1,1,1,1,1,1,1,1,1,1,1,1,1,1,1,1,1,3] rfl (by kernel_rfl) ?_
   refine J 6 ?_
   refine .p (.aD _ underlying51 sizeOf38 rfl rfl rfl (by first | omega | exact hn | decide)) ?_
   refine .p (.dJ (Y.load isAgg38 rfl (Cell.tk (f:=dU s.taken n (gU (s.taken n+1))) (by omega))) (show _=gU (s.taken n+1) from dF)) ?_
   refine .p (.Du rfl rfl) ?_
   refine J 1 ?_
   refine .p (.gh underlying3 underlying38 rfl (by omega)) ?_
   refine .p (.yZ rfl rfl) ?_
   refine .p (.yZ rfl rfl) ?_
   refine J 1 ?_
   refine .p (.IX (fun v1 v2 v3=>[v1,v2,(.int .i64 0),v3,(.int .i64 0),(.int .u64 0),(.int .u64 0),(.int .u64 0),(.int .u64 0),(.int .u64 0),(.int .u64 0),(.int .u64 0),(.int .u64 0),(.int .u64 0),(.bool false),(.int .i64 0),(.int .i64 0),(.int .i64 0)]) rfl rfl rfl (by kernel_rfl)) ?_
   refine J 2 ?_
   refine .p (.aD _ underlying54 sizeOf53 rfl rfl rfl (by first | omega | exact hn | decide)) ?_
   refine .d3 rfl (af.L4 (t:=⟨true,lg (gU (s.taken n+1)) n,0,f,0,fun _=>0,0,false,0,0,0⟩) (by exact sizeOf53) rfl rfl (by omega)) ?_
   rintro _ _ ⟨rfl,rfl⟩
   refine J 9 ?_
   refine .p (.aD _ underlying54 sizeOf53 rfl rfl rfl (by first | omega | exact hn | decide)) ?_
   refine J 1 ?_
   refine .p (.aD 0 underlying39 sizeOf38 rfl rfl rfl (by first | omega | exact hn | decide)) ?_
   refine .aw rfl (af.qR sizeOf38 rfl rfl (by first | omega | exact hn) (by first | omega | decide)) ?_
   rintro _ _ ⟨rfl,rfl⟩
   refine J 14 ?_
   rw[hb]
   simp only[dF,oZ]
   exact JR 0 ()
 ·refine J 11 ?_
  have hb:s.begin f arg=(-1,s):=by
   unfold RSp.begin
   rw[← hf,show 16-n=0 from by omega,rFree?]
  rw[hb]
  exact JR 0 ()
theorem pd{W:World}{b n:Nat}{f:Nat→RT}{y:Int}(hn:n<16)(hi:0≤(f n).into∧(f n).into≤8):Fn Tryz.prog W 95 [ptr b,.int .i64 (n:Int),.int .u64 y] [arr b 24 (du f)] Unit (fun _=>.agg (dr ((f n).dL y)).toArray) (fun _=>True) (fun _=>[arr b 24 (du (dU f n ((f n).cV y)))]):=by
 refine Fn.intro (N:=53) func95 rfl ntmps95 rfl fun F=>?_
 show ax _ _ _ _ _ _ [arr b 24 (du f),F]
 refine J 2 ?_
 refine .aw rfl (af.alloc rfl zeroValue101 rfl) ?_
 rintro _ _ ⟨b6,rfl,rfl⟩
 refine J 8 ?_
 refine .p (.aD _ underlying54 sizeOf53 rfl rfl rfl (by first | omega | exact hn | decide)) ?_
 refine .p (.la rfl (Cells.t (by first | omega | exact hn))) ?_
 refine .aw rfl (af.alloc rfl zeroValue53 rfl) ?_
 rintro _ _ ⟨b7,rfl,rfl⟩
 refine J 3 ?_
 refine .nJ (X:=Unit) [2,14,15,16,17,18,19,20,21,22,23,24,25,26,27] (fun _=>True) (fun _=>[(2,some (.int .u64 (if (f n).into=0 then 0 else y)))]) (fun _=>[arr b 24 (du (dU f n (if (f n).into=0 then f n else (f n).put ((f n).into-1) y))),arr b6 0 [.int .u64 0,.int .i64 0,.int .u64 0,.int .u64 0,.int .i64 0,.bool false],arr b7 0 (Bt (f n)),F]) ?_ ?_
 ·refine JD 7 (fun h16=>?_) fun h16=>?_
  ·refine J 3 ?_
   refine .eY () .auto ?_ ?_ ?_
   ·trivial
   ·rw[if_pos h16];exact⟨rfl,trivial⟩
   ·rw[if_pos h16,Fm];exact fun w s=>aK.kept .auto w s
  ·refine .draw [arr b7 0 (Bt (f n)),arr b 24 (du f)] [1,1,1,1,1,1,1,1,1,1,1,3] rfl (by kernel_rfl) ?_
   refine J 8 ?_
   refine .p (.aD _ underlying54 sizeOf53 rfl rfl rfl (by first | omega | exact hn | decide)) ?_
   refine J 1 ?_
   refine .p (.aD ((f n).into-1).toNat underlying39 sizeOf38 rfl rfl (by omega) (by omega)) ?_
   refine .d3 rfl (af.qR sizeOf38 rfl rfl (by first | omega | exact hn) (by first | omega | decide)) ?_
   rintro _ _ ⟨rfl,rfl⟩
   refine J 1 ?_
   refine .eY () .auto ?_ ?_ ?_
   ·trivial
   ·rw[if_neg h16];exact⟨rfl,trivial⟩
   ·rw[if_neg h16];exact fun w s=>aK.kept .auto w s
 ·rintro⟨⟩ -
  obtain⟨y1,hy1⟩:∃ y1,y1=(if (f n).into=0 then 0 else y):=⟨_,rfl⟩
  obtain⟨t1,h1⟩:∃ t1,t1=(if (f n).into=0 then f n else (f n).put ((f n).into - 1) y):=⟨_,rfl⟩
  have hrec:dr ((f n).dL y)=[.int .u64 (f n).handle,.int .i64 (f n).op,.int .u64 0,.int .u64 y1,.int .i64 0,.bool true]:=by rw[hy1];rfl
  rw[← hy1, ← h1]
  refine J 6 ?_
  refine .p (.aD _ underlying54 sizeOf53 rfl rfl rfl (by first | omega | exact hn | decide)) ?_
  refine J 1 ?_
  refine .p (.aD 7 underlying39 sizeOf38 rfl rfl rfl (by first | omega | exact hn | decide)) ?_
  refine .aw rfl (af.qR sizeOf38 rfl rfl (by first | omega | exact hn) (by first | omega | decide)) ?_
  rintro _ _ ⟨rfl,rfl⟩
  refine J 8 ?_
  refine .p (.aD _ underlying54 sizeOf53 rfl rfl rfl (by first | omega | exact hn | decide)) ?_
  refine J 1 ?_
  refine .aw rfl (af.Hr sizeOf3 rfl rfl (by first | omega | exact hn)) ?_
  rintro _ _ ⟨rfl,rfl⟩
  refine J 8 ?_
  refine .p (.aD _ underlying54 sizeOf53 rfl rfl rfl (by first | omega | exact hn | decide)) ?_
  refine J 1 ?_
  refine .aw rfl (af.IB sizeOf3 rfl rfl (by first | omega | exact hn)) ?_
  rintro _ _ ⟨rfl,rfl⟩
  refine J 9 ?_
  refine .p (.BS (fun v1 v2 v3 v4=>[v1,v2,(.int .u64 0),v3,(.int .i64 0),v4]) rfl rfl rfl rfl (by kernel_rfl)) ?_
  refine J 4 ?_
  rw[show(f n).cV y = {t1.put 7 0 with why:=0,into:=0 } from by unfold RT.cV;rw[← h1]]
  simp only[dF,oZ]
  refine .fw rfl rfl isAgg101 (by exact sizeOf101) Cells.a fun w s=>⟨(),?_,trivial,ar .auto s⟩
  rw[hrec]
theorem lj{W:World}{ba b:Nat}{v:RV}{a:RA}{x y e:Int}{fin:Bool}(hn:a.n<16)(hr:a.s.au.length≤1000000000):Fn Tryz.prog W 88 [ptr ba,.int .u64 x,.int .u64 y,.int .i64 e,.bool fin] [cB ba b v a] Unit (fun _=>.tuple #[]) (fun _=>True) (fun _=>[cB ba b v (a.say x y e fin)]):=by
 refine Fn.intro (N:=48) func88 rfl ntmps88 rfl fun F=>?_
 show ax _ _ _ _ _ _ [cB ba b v a,F]
 refine .o2 (C:=cB ba b v (a)) .auto rfl ?_
 rintro vw vl -
 refine .fr (A:=bV b v (a).s) .auto bx ?_
 refine .o1 (C:=iL dr 6 b 337 (a.s).au) .auto rfl ?_
 rintro vr -
 refine .draw [arr ba 0 (lh b (a) vw vl),arr b 24 (du (a.s).thr),arr b 337 [vr]] [0,0,0,0,0,0,0,0,0,0,0,1,1,1,1,1,1,1,1,1,1,1,1,1,1,1,1,1,1,1,1,1,1,1,2,2,1,1,3] rfl (by kernel_rfl) ?_
 refine J 21 ?_
 refine .p (.aD _ underlying54 sizeOf53 rfl rfl rfl (by first | omega | exact hn | decide)) ?_
 refine J 1 ?_
 refine .p (.ld rfl (Cell.t (by first | omega | exact hn) rfl)) ?_
 refine J 9 ?_
 refine .p (.DI (fun v1 v2 v3 v4 v5 v6=>[v1,v2,v3,v4,v5,v6]) rfl rfl rfl rfl rfl rfl (by kernel_rfl)) ?_
 refine .d2 rfl Kept.auto (af.gQ 101 rfl rfl (by kernel_rfl)) (by rintro _ _ ⟨b44,rfl,rfl⟩;exact Kept.auto) ?_
 rintro _ _ ⟨b44,rfl,rfl⟩
 refine .d2 rfl Kept.auto (af.fi (enc:=dr) (k:=6) (⟨(a.s.thr a.n).handle,a.i.op,x,y,e,fin⟩:Rec) rfl underlying49 underlying49 typeInfo101 rfl rfl rfl (by decide) rfl rfl rfl .auto rfl .auto (by omega) rfl) (by rintro _ _ ⟨v45,rfl,rfl⟩;exact Kept.auto) ?_
 rintro _ _ ⟨v45,rfl,rfl⟩
 refine J 2 ?_
 refine .d3 rfl (af.nf sizeOf49 rfl rfl rfl) ?_
 rintro _ _ ⟨rfl,rfl⟩
 exact JR 1 ()
theorem cx{W:World}{ba b:Nat}{v:RV}{a:RA}{x y e:Int}(hn:a.n<16)(hr:a.s.au.length≤1000000000)(he:0≤e∧e≤11):Fn Tryz.prog W 129 [ptr ba,.int .u64 x,.int .u64 y,.int .i64 e] [cB ba b v a] Unit (fun _=>.tuple #[]) (fun _=>True) (fun _=>[cB ba b v (a.done x y e)]):=by
 refine Fn.intro (N:=28) func129 rfl ntmps129 rfl fun F=>?_
 show ax _ _ _ _ _ _ [cB ba b v a,F]
 refine J 6 ?_
 refine .c call88 rfl (lj hn hr) fun _ _=>?_
 refine .o2 (C:=cB ba b v (a.say x y e true)) .auto rfl ?_
 rintro vw vl -
 refine .fr (A:=bV b v (a.say x y e true).s) .auto bx ?_
 refine J 2 ?_
 refine .draw [arr ba 0 (lh b (a.say x y e true) vw vl)] [1,1,1,1,1,1,1,1,1,1,1,1,1,1,1,3] rfl (by kernel_rfl) ?_
 refine J 9 ?_
 refine .p (.gh underlying28 underlying38 rfl (by omega)) ?_
 refine J 2 ?_
 refine .p (.aD _ underlying54 sizeOf53 rfl rfl rfl (by first | omega | exact hn | decide)) ?_
 refine J 1 ?_
 refine .p (.aD 7 underlying39 sizeOf38 rfl rfl rfl (by first | omega | exact hn | decide)) ?_
 refine .d3 rfl (af.qR sizeOf38 rfl rfl (by first | omega | exact hn) (by first | omega | decide)) ?_
 rintro _ _ ⟨rfl,rfl⟩
 exact JR 1 ()
theorem gr{W:World}{ba b:Nat}{v:RV}{a:RA}{why into x y:Int}(hn:a.n<16)(hr:a.s.au.length≤1000000000):Fn Tryz.prog W 133 [ptr ba,.int .i64 why,.int .i64 into,.int .u64 x,.int .u64 y] [cB ba b v a] Unit (fun _=>.tuple #[]) (fun _=>True) (fun _=>[cB ba b v (a.stop why into x y)]):=by
 refine Fn.intro (N:=61) func133 rfl ntmps133 rfl fun F=>?_
 show ax _ _ _ _ _ _ [cB ba b v a,F]
 refine J 5 ?_
 refine .c call88 rfl (lj hn hr) fun _ _=>?_
 refine .o2 (C:=cB ba b v (a.say x y 0 false)) .auto rfl ?_
 rintro vw vl -
 refine .fr (A:=bV b v (a.say x y 0 false).s) .auto bx ?_
 refine J 3 ?_
 refine .draw [arr ba 0 (lh b (a.say x y 0 false) vw vl)] [1,1,1,1,1,1,1,1,1,1,1,1,1,3] rfl (by kernel_rfl) ?_
 refine J 11 ?_
 refine .p (.aD _ underlying54 sizeOf53 rfl rfl rfl (by first | omega | exact hn | decide)) ?_
 refine J 1 ?_
 refine .d3 rfl (af.Hr sizeOf3 rfl rfl (by first | omega | exact hn)) ?_
 rintro _ _ ⟨rfl,rfl⟩
 refine J 3 ?_
 refine .draw [arr ba 0 (lh b (a.say x y 0 false) vw vl)] [1,1,1,1,1,1,1,1,1,1,1,1,1,1,1,1,1,3] rfl (by kernel_rfl) ?_
 refine J 15 ?_
 refine .p (.aD _ underlying54 sizeOf53 rfl rfl rfl (by first | omega | exact hn | decide)) ?_
 refine J 1 ?_
 refine .d3 rfl (af.Mv sizeOf3 rfl rfl (by first | omega | exact hn)) ?_
 rintro _ _ ⟨rfl,rfl⟩
 refine J 3 ?_
 refine .draw [arr ba 0 (lh b (a.say x y 0 false) vw vl)] [1,1,1,1,1,1,1,1,1,1,1,1,1,3] rfl (by kernel_rfl) ?_
 refine J 11 ?_
 refine .p (.aD _ underlying54 sizeOf53 rfl rfl rfl (by first | omega | exact hn | decide)) ?_
 refine J 1 ?_
 refine .d3 rfl (af.IB sizeOf3 rfl rfl (by first | omega | exact hn)) ?_
 rintro _ _ ⟨rfl,rfl⟩
 refine J 9 ?_
 simp only[dF,oZ]
 exact JR 0 ()
theorem jm{W:World}{ba b:Nat}{v:RV}{a:RA}{n:Nat}{y:Int}(hn:n<16)(hi:0≤(a.s.thr n).into∧(a.s.thr n).into≤8)(hl:a.late.length≤1000000)(hw:a.e.aM.length≤1000000):Fn Tryz.prog W 126 [ptr ba,.int .i64 (n:Int),.int .u64 y] [cB ba b v a] Unit (fun _=>.tuple #[]) (fun _=>True) (fun _=>[cB ba b v (a.free n y)]):=by
 refine Fn.intro (N:=34) func126 rfl ntmps126 rfl fun F=>?_
 show ax _ _ _ _ _ _ [cB ba b v a,F]
 refine .o2 (C:=cB ba b v (a)) .auto rfl ?_
 rintro vw vl -
 refine .fr (A:=bV b v (a).s) .auto bx ?_
 refine J 1 ?_
 refine .draw [arr ba 0 (lh b (a) vw vl)] [0,0,0,0,0,1,1,1,1,1,1,2,2,2,1,1,3] rfl (by kernel_rfl) ?_
 refine J 11 ?_
 refine .c2 call95 rfl (pd hn hi) fun _ _=>?_
 refine .d2 rfl Kept.auto (af.gQ 101 rfl rfl (by kernel_rfl)) (by rintro _ _ ⟨b18,rfl,rfl⟩;exact Kept.auto) ?_
 rintro _ _ ⟨b18,rfl,rfl⟩
 refine .d2 rfl Kept.auto (af.fi (enc:=dr) (k:=6) ((a.s.t n).dL y) rfl underlying49 underlying49 typeInfo101 rfl rfl rfl (by decide) rfl rfl rfl .auto rfl .auto (by omega) rfl) (by rintro _ _ ⟨v19,rfl,rfl⟩;exact Kept.auto) ?_
 rintro _ _ ⟨v19,rfl,rfl⟩
 refine J 2 ?_
 refine .d3 rfl (af.pz sizeOf49 rfl rfl rfl) ?_
 rintro _ _ ⟨rfl,rfl⟩
 refine J 10 ?_
 refine .aw rfl (af.gQ 3 rfl rfl (by kernel_rfl)) ?_
 rintro _ _ ⟨b29,rfl,rfl⟩
 refine .aw rfl (af.fi (enc:=aL) (k:=1) (n:Int) rfl underlying23 underlying23 typeInfo3 rfl rfl rfl (by decide) rfl rfl rfl .auto rfl .auto (by omega) rfl) ?_
 rintro _ _ ⟨v30,rfl,rfl⟩
 refine J 3 ?_
 refine .aw rfl (af.pz sizeOf23 rfl rfl rfl) ?_
 rintro _ _ ⟨rfl,rfl⟩
 exact JR 1 ()
end Go.SLYtefdijgllbkmfaaGreat
namespace Go.SLYtefdijgllbkmfaaGreat
open Go Go.RowKit Go.Proofs Go.Proofs.Tryz
attribute [local irreducible] ax aQ bu cj bQ Y
theorem wK{W:World}{ba b:Nat}{v:RV}{a:RA}{x:Int}(hn:a.n<16)(hT:fT a.s)(hl:a.late.length≤500000)(hw:a.e.aM.length≤500000):Fn Tryz.prog W 89 [ptr ba,.int .u64 x] [cB ba b v a] Unit (fun _=>.tuple #[]) (fun _=>True) (fun _=>[cB ba b v (a.fin x)]):=by
 refine Fn.intro (N:=75) func89 rfl ntmps89 rfl fun F=>?_
 show ax _ _ _ _ _ _ [cB ba b v a,F]
 refine .o2 (C:=cB ba b v (a)) .auto rfl ?_
 rintro vw vl -
 refine .fr (A:=bV b v (a).s) .auto bx ?_
 refine J 7 ?_
 rw[CL]
 refine J 3 ?_
 refine .draw [arr ba 0 (lh b (a.ending) vw vl),arr b 24 (du (a.s).thr)] [0,0,0,0,0,0,0,0,0,0,0,0,2,3] rfl (by kernel_rfl) ?_
 refine J 10 ?_
 refine .q (.aD _ underlying54 sizeOf53 rfl rfl rfl (by first | omega | exact hn | decide)) ?_
 refine .q (.la rfl (Cells.t (by first | omega | exact hn))) ?_
 refine .d2 rfl Kept.auto (af.alloc rfl zeroValue53 rfl) (by rintro _ _ ⟨b4,rfl,rfl⟩;exact Kept.auto) ?_
 rintro _ _ ⟨b4,rfl,rfl⟩
 refine .d3 rfl (af.tP (by exact sizeOf53) rfl rfl rfl (by rfl)) ?_
 rintro _ _ ⟨rfl,rfl⟩
 refine J 9 ?_
 apply aQ.gI 4 28 24 [24,25,26,27,28] rfl
 ·intro h24
  exact JS 5
 ·intro h24
  exact JS 5
 refine JD 2 (fun h28=>?_) fun h28=>?_
 ·simp only[Bool.and_eq_true,decide_eq_true_eq,Bool.not_eq_true'] at h28
  have h28:a.t.pA=false∧a.t.av=0:=h28
  refine J 1 ?_
  refine .draw [arr ba 0 (lh b (a.ending) vw vl)] [1,1,1,1,1,1,1,1,1,1,1,1,3] rfl (by kernel_rfl) ?_
  refine J 10 ?_
  refine .p (.aD _ underlying54 sizeOf53 rfl rfl rfl (by first | omega | exact hn | decide)) ?_
  refine J 1 ?_
  refine .d3 rfl (af.Hr sizeOf3 rfl rfl (by first | omega | exact hn)) ?_
  rintro _ _ ⟨rfl,rfl⟩
  refine J 3 ?_
  refine .draw [arr ba 0 (lh b (a.ending) vw vl)] [1,1,1,1,1,1,1,1,1,1,1,1,1,3] rfl (by kernel_rfl) ?_
  refine J 11 ?_
  refine .p (.aD _ underlying54 sizeOf53 rfl rfl rfl (by first | omega | exact hn | decide)) ?_
  refine J 1 ?_
  refine .d3 rfl (af.L2 sizeOf38 rfl rfl (by first | omega | exact hn)) ?_
  rintro _ _ ⟨rfl,rfl⟩
  refine J 4 ?_
  rw[show a.fin x=a.ending.aj {a.t with why:=9,value:=x } from by unfold RA.fin;rw[if_pos h28]]
  simp only[dF,oZ]
  exact JR 0 ()
 ·simp only[Bool.and_eq_false_iff,decide_eq_false_iff_not,Bool.not_eq_false'] at h28
  have hn28:¬(a.t.pA=false∧a.t.av=0):=fun⟨e1,e2⟩=>by
   rcases h28 with h | h
   ·exact absurd ((show a.t.pA=true from h).symm.trans e1) (by decide)
   ·exact h e2
  refine JD 10 (fun h56=>?_) fun h56=>?_
  ·have h56:a.t.pA=false:=by have h:=h56;simp only[Bool.not_eq_true'] at h;exact h
   refine J 1 ?_
   have hj:=(hT a.n).j
   have hj0:¬(a.s.thr a.n).av=0:=fun e=>hn28 ⟨h56,e⟩
   obtain⟨j,hjj⟩:∃ j:Nat,(a.s.thr a.n).av=(j:Int)+1:=⟨((a.s.thr a.n).av - 1).toNat,by omega⟩
   refine J 3 ?_
   refine .p (.dJ (Y.sub rfl rfl (by have hj2:0≤(a.s.thr a.ending.n).av∧(a.s.thr a.ending.n).av≤16:=hj;omega)) (show(a.s.thr a.ending.n).av-1=(j:Int) from by have e:(a.s.thr a.ending.n).av=(j:Int)+1:=hjj;omega)) ?_
   refine J 1 ?_
   refine .c call126 rfl (jm (a:=a.ending) (n:=j) (by omega) (hT j).i (by show a.late.length≤_;omega) (by show a.e.aM.length≤_;omega)) fun _ _=>?_
   refine .o2 (C:=cB ba b v (a.ending.free j x)) .auto rfl ?_
   rintro vw vl -
   refine .fr (A:=bV b v (a.ending.free j x).s) .auto bx ?_
   refine J 2 ?_
   refine .draw [arr ba 0 (lh b (a.ending.free j x) vw vl)] [1,1,1,1,1,1,1,1,1,1,1,1,3] rfl (by kernel_rfl) ?_
   refine J 10 ?_
   refine .p (.aD _ underlying54 sizeOf53 rfl rfl rfl (by first | omega | exact hn | decide)) ?_
   refine J 1 ?_
   refine .d3 rfl (af.Bu sizeOf4 rfl rfl (by first | omega | exact hn)) ?_
   rintro _ _ ⟨rfl,rfl⟩
   refine J 1 ?_
   rw[show a.fin x=(a.ending.free j x).sN from by unfold RA.fin;rw[if_neg hn28,if_pos h56,show a.t.av=(j:Int)+1 from hjj,show((j:Int)+1-1).toNat=j from by omega]]
   exact JR 0 ()
  ·have h56:¬a.t.pA=false:=by have h:=h56;simp only[Bool.not_eq_false'] at h;exact fun e=>by rw[show a.t.pA=true from h] at e;cases e
   refine J 2 ?_
   refine .draw [arr ba 0 (lh b (a.ending) vw vl)] [1,1,1,1,1,1,1,1,1,1,1,1,3] rfl (by kernel_rfl) ?_
   refine J 10 ?_
   refine .p (.aD _ underlying54 sizeOf53 rfl rfl rfl (by first | omega | exact hn | decide)) ?_
   refine J 1 ?_
   refine .d3 rfl (af.Bu sizeOf4 rfl rfl (by first | omega | exact hn)) ?_
   rintro _ _ ⟨rfl,rfl⟩
   refine J 1 ?_
   rw[show a.fin x=a.ending.sN from by unfold RA.fin;rw[if_neg hn28,if_neg h56]]
   exact JR 0 ()
theorem uD{W:World}{ba b:Nat}{v:RV}{a:RA}{x y:Int}(hn:a.n<16)(hT:fT a.s)(hl:a.late.length≤500000)(hw:a.e.aM.length≤500000)(hr:a.s.au.length≤900000000)(hp:1≤(a.s.thr a.n).pc):Fn Tryz.prog W 127 [ptr ba,.int .u64 x,.int .u64 y] [cB ba b v a] Unit (fun _=>.tuple #[]) (fun _=>True) (fun _=>[cB ba b v (a.fault x y)]):=by
 refine Fn.intro (N:=30) func127 rfl ntmps127 rfl fun F=>?_
 show ax _ _ _ _ _ _ [cB ba b v a,F]
 refine .o2 (C:=cB ba b v (a)) .auto rfl ?_
 rintro vw vl -
 refine .fr (A:=bV b v (a).s) .auto bx ?_
 have hpc:=(hT a.n).p
 refine J 1 ?_
 refine .draw [] [1,1,1,1,1,1,1,1,1,1,1,1,1,1,1,1,1,1,3] rfl (by kernel_rfl) ?_
 refine J 10 ?_
 refine .p (.aD _ underlying54 sizeOf53 rfl rfl rfl (by first | omega | exact hn | decide)) ?_
 refine J 1 ?_
 refine .p (.ld rfl (Cell.t (by first | omega | exact hn) rfl)) ?_
 refine J 3 ?_
 refine .p (.aD _ underlying54 sizeOf53 rfl rfl rfl (by first | omega | exact hn | decide)) ?_
 refine J 1 ?_
 refine .d3 rfl (af.KX sizeOf3 rfl rfl (by first | omega | exact hn)) ?_
 rintro _ _ ⟨rfl,rfl⟩
 refine J 7 ?_
 refine .c call88 rfl (lj (a:=(a.aj {a.t with pc:=a.t.pc-1 })) hn (by show a.s.au.length≤_;omega)) fun _ _=>?_
 refine J 4 ?_
 refine .c call89 rfl (wK (a:=((a.aj {a.t with pc:=a.t.pc-1 }).say x y 6 true)) hn (hT.dU (n:=a.n) (t:={a.t with pc:=a.t.pc-1 }) rfl ⟨(hT a.n).r,(hT a.n).i,(hT a.n).j,by show 0≤(a.s.thr a.n).pc-1∧(a.s.thr a.n).pc-1≤_;omega,(hT a.n).v⟩) hl hw) fun _ _=>?_
 exact JR 1 ()
theorem CM{W:World}{ba b:Nat}{v:RV}{a:RA}(hn:a.n<16)(hT:fT a.s)(hl:a.late.length≤500000)(hw:a.e.aM.length≤500000)(hr:a.s.au.length≤900000000)(hI:jb a.i)(hp:(a.s.thr a.n).pc≤900000)(hm:a.s.mem.length≤1000000):Fn Tryz.prog W 90 [ptr ba] [cB ba b v a] Unit (fun _=>.tuple #[]) (fun _=>True) (fun _=>[cB ba b v (a.plain)]):=by
 refine Fn.intro (N:=158) func90 rfl ntmps90 rfl fun F=>?_
 show ax _ _ _ _ _ _ [cB ba b v a,F]
 refine .o2 (C:=cB ba b v (a)) .auto rfl ?_
 rintro vw vl -
 refine .fr (A:=bV b v (a).s) .auto bx ?_
 have hIa:=hI.a
 have hIb:=hI.b
 have hIc:=hI.c
 have hIn:=hI.n
 have hpc:=(hT a.n).p
 have hx:=(hT a.n).r a.i.a.toNat
 have hy:=(hT a.n).r a.i.b.toNat
 have hz:=(hT a.n).r a.i.c.toNat
 refine J 1 ?_
 refine .draw [arr ba 0 (lh b (a) vw vl)] [0,0,0,0,0,0,0,0,2,1,3] rfl (by kernel_rfl) ?_
 refine J 7 ?_
 refine .q (.la rfl (Cells.jA (ds:=dI a.i) (Cells.a (cs:=lh b a vw vl)) rfl)) ?_
 refine .d2 rfl Kept.auto (af.alloc rfl zeroValue131 rfl) (by rintro _ _ ⟨b3,rfl,rfl⟩;exact Kept.auto) ?_
 rintro _ _ ⟨b3,rfl,rfl⟩
 refine J 1 ?_
 refine .d3 rfl (af.tP (by exact sizeOf131) rfl rfl rfl (by rfl)) ?_
 rintro _ _ ⟨rfl,rfl⟩
 refine J 3 ?_
 refine .draw [] [1,1,1,1,1,1,1,1,1] rfl (by kernel_rfl) ?_
 refine J 7 ?_
 refine .p (.aD _ underlying54 sizeOf53 rfl rfl rfl (by first | omega | exact hn | decide)) ?_
 refine J 4 ?_
 refine .draw [] [1,1,1,1,1,1,1,1,1,1,1,1,1,1,1,1] rfl (by kernel_rfl) ?_
 refine J 5 ?_
 refine .p (.aD a.i.a.toNat underlying39 sizeOf38 rfl rfl (by omega) (by omega)) ?_
 refine .p (.ld rfl (Cell.tr (by first | omega | exact hn) (by omega))) ?_
 refine J 5 ?_
 refine .p (.aD a.i.b.toNat underlying39 sizeOf38 rfl rfl (by omega) (by omega)) ?_
 refine .p (.ld rfl (Cell.tr (by first | omega | exact hn) (by omega))) ?_
 refine J 9 ?_
 refine .p (.ld rfl (Cell.t (by first | omega | exact hn) rfl)) ?_
 refine .p (.add rfl rfl (by omega)) ?_
 refine J 2 ?_
 refine .aw rfl (af.KX sizeOf3 rfl rfl (by first | omega | exact hn)) ?_
 rintro _ _ ⟨rfl,rfl⟩
 refine JD 15 (fun h69=>?_) fun h69=>?_
 ·refine .draw [] [1,1,1,1,1,1,1,1,3] rfl (by kernel_rfl) ?_
  refine J 7 ?_
  refine .p (.aD a.i.a.toNat underlying39 sizeOf38 rfl rfl (by omega) (by omega)) ?_
  refine .d3 rfl (af.qR sizeOf38 rfl rfl (by first | omega | exact hn) (by first | omega | decide)) ?_
  rintro _ _ ⟨rfl,rfl⟩
  refine J 2 ?_
  rw[show a.plain=(a.aj {a.t with pc:=a.t.pc+1 }).aj ((a.aj {a.t with pc:=a.t.pc+1 }).t.put a.i.a a.i.n) from by unfold RA.plain;exact if_pos h69]
  exact JR 0 ()
 ·refine JD 6 (fun h79=>?_) fun h79=>?_
  ·refine J 4 ?_
   have hIj:=hI.j (.inl h79)
   refine .p (.gy underlying38 underlying3 rfl (by omega)) ?_
   refine J 2 ?_
   refine .aw rfl (af.KX sizeOf3 rfl rfl (by first | omega | exact hn)) ?_
   rintro _ _ ⟨rfl,rfl⟩
   refine J 2 ?_
   rw[show a.plain=(a.aj {a.t with pc:=a.t.pc+1 }).aj {(a.aj {a.t with pc:=a.t.pc+1 }).t with pc:=a.i.n } from by unfold RA.plain;exact(if_neg h69).trans (if_pos h79)]
   exact JR 0 ()
  ·refine JD 6 (fun h87=>?_) fun h87=>?_
   ·refine JD 6 (fun h90=>?_) fun h90=>?_
    ·refine J 4 ?_
     have hIj:=hI.j (.inr h87)
     refine .p (.gy underlying38 underlying3 rfl (by omega)) ?_
     refine J 2 ?_
     refine .aw rfl (af.KX sizeOf3 rfl rfl (by first | omega | exact hn)) ?_
     rintro _ _ ⟨rfl,rfl⟩
     refine J 2 ?_
     rw[show a.plain=(a.aj {a.t with pc:=a.t.pc+1 }).aj {(a.aj {a.t with pc:=a.t.pc+1 }).t with pc:=a.i.n } from by unfold RA.plain;exact(if_neg h69).trans ((if_neg h79).trans (if_pos h87|>.trans (if_pos h90)))]
     exact JR 0 ()
    ·refine J 2 ?_
     rw[show a.plain=(a.aj {a.t with pc:=a.t.pc+1 }) from by unfold RA.plain;exact(if_neg h69).trans ((if_neg h79).trans (if_pos h87|>.trans (if_neg h90)))]
     exact JR 0 ()
   ·refine JD 6 (fun h97=>?_) fun h97=>?_
    ·refine J 6 ?_
     refine .o1 (C:=iL bF 1 b 312 a.s.mem) .auto rfl ?_
     rintro vm -
     refine J 3 ?_
     refine .p (.gh underlying3 underlying38 rfl (by omega)) ?_
     refine JD 3 (fun h106=>?_) fun h106=>?_
     ·refine J 4 ?_
      refine .c call127 rfl (uD (a:=(a.aj {a.t with pc:=a.t.pc+1 })) (x:=((a.s.thr a.n).aq a.i.b.toNat)) (y:=0) hn (hT.dU (n:=a.n) (t:={a.t with pc:=a.t.pc+1 }) rfl ⟨(hT a.n).r,(hT a.n).i,(hT a.n).j,by show 0≤(a.s.thr a.n).pc+1∧(a.s.thr a.n).pc+1≤_;omega,(hT a.n).v⟩) hl hw (by show a.s.au.length≤_;omega) (by rw[show((a.aj {a.t with pc:=a.t.pc+1 }).s.thr (a.aj {a.t with pc:=a.t.pc+1 }).n) = {a.t with pc:=a.t.pc+1 } from dF];show 1≤(a.s.thr a.n).pc+1;omega)) fun _ _=>?_
      refine J 5 ?_
      rw[show a.plain=(a.aj {a.t with pc:=a.t.pc+1 }).fault ((a.s.thr a.n).aq a.i.b.toNat) 0 from by unfold RA.plain;exact(if_neg h69).trans ((if_neg h79).trans ((if_neg h87).trans (if_pos h97|>.trans (if_pos h106))))]
      exact JR 0 ()
     ·refine J 3 ?_
      refine .draw [] [1,1,1,1,1,1,1,1,1,1,1,1,1,3] rfl (by kernel_rfl) ?_
      refine J 8 ?_
      refine .p (.ig ((a.s.thr a.n).aq a.i.b.toNat).toNat underlying55 sizeOf38 rfl rfl Rd.s (by omega) (by omega)) ?_
      refine .p (.ld rfl (Cell.za Rd.s (getD_some (d:=(0:Int)) (show((a.s.thr a.n).aq a.i.b.toNat).toNat<a.s.mem.length by omega)) (by rfl))) ?_
      refine J 2 ?_
      refine .p (.aD a.i.a.toNat underlying39 sizeOf38 rfl rfl (by omega) (by omega)) ?_
      refine .d3 rfl (af.qR sizeOf38 rfl rfl (by first | omega | exact hn) (by first | omega | decide)) ?_
      rintro _ _ ⟨rfl,rfl⟩
      refine J 10 ?_
      refine .p (.ig ((a.s.thr a.n).aq a.i.b.toNat).toNat underlying55 sizeOf38 rfl rfl Rd.s (by omega) (by omega)) ?_
      refine .p (.ld rfl (Cell.za Rd.s (getD_some (d:=(0:Int)) (show((a.s.thr a.n).aq a.i.b.toNat).toNat<a.s.mem.length by omega)) (by rfl))) ?_
      refine .c call88 rfl (lj (a:=((a.aj {a.t with pc:=a.t.pc+1 }).aj ((a.aj {a.t with pc:=a.t.pc+1 }).t.put a.i.a (a.s.mem.getD ((a.s.thr a.n).aq a.i.b.toNat).toNat 0)))) (x:=((a.s.thr a.n).aq a.i.b.toNat)) (y:=(a.s.mem.getD ((a.s.thr a.n).aq a.i.b.toNat).toNat 0)) (e:=0) (fin:=true) hn (by show a.s.au.length≤_;omega)) fun _ _=>?_
      refine J 2 ?_
      rw[show a.plain=((a.aj {a.t with pc:=a.t.pc+1 }).aj ((a.aj {a.t with pc:=a.t.pc+1 }).t.put a.i.a (a.s.mem.getD ((a.s.thr a.n).aq a.i.b.toNat).toNat 0))).say ((a.s.thr a.n).aq a.i.b.toNat) (a.s.mem.getD ((a.s.thr a.n).aq a.i.b.toNat).toNat 0) 0 true from by unfold RA.plain;exact(if_neg h69).trans ((if_neg h79).trans ((if_neg h87).trans (if_pos h97|>.trans (if_neg h106))))]
      exact JR 0 ()
    ·refine JD 6 (fun h133=>?_) fun h133=>?_
     ·refine J 6 ?_
      refine .o1 (C:=iL bF 1 b 312 a.s.mem) .auto rfl ?_
      rintro vm -
      refine J 3 ?_
      refine .p (.gh underlying3 underlying38 rfl (by omega)) ?_
      refine JD 3 (fun h142=>?_) fun h142=>?_
      ·refine J 5 ?_
       refine .c call127 rfl (uD (a:=(a.aj {a.t with pc:=a.t.pc+1 })) (x:=((a.s.thr a.n).aq a.i.a.toNat)) (y:=((a.s.thr a.n).aq a.i.b.toNat)) hn (hT.dU (n:=a.n) (t:={a.t with pc:=a.t.pc+1 }) rfl ⟨(hT a.n).r,(hT a.n).i,(hT a.n).j,by show 0≤(a.s.thr a.n).pc+1∧(a.s.thr a.n).pc+1≤_;omega,(hT a.n).v⟩) hl hw (by show a.s.au.length≤_;omega) (by rw[show((a.aj {a.t with pc:=a.t.pc+1 }).s.thr (a.aj {a.t with pc:=a.t.pc+1 }).n) = {a.t with pc:=a.t.pc+1 } from dF];show 1≤(a.s.thr a.n).pc+1;omega)) fun _ _=>?_
       refine J 5 ?_
       rw[show a.plain=(a.aj {a.t with pc:=a.t.pc+1 }).fault ((a.s.thr a.n).aq a.i.a.toNat) ((a.s.thr a.n).aq a.i.b.toNat) from by unfold RA.plain;exact(if_neg h69).trans ((if_neg h79).trans ((if_neg h87).trans ((if_neg h97).trans (if_pos h133|>.trans (if_pos h142)))))]
       exact JR 0 ()
      ·refine J 10 ?_
       refine .p (.ig ((a.s.thr a.n).aq a.i.a.toNat).toNat underlying55 sizeOf38 rfl rfl Rd.s (by omega) (by omega)) ?_
       refine .aw rfl (af.gL (x':=((a.s.thr a.n).aq a.i.b.toNat)) rfl rfl sizeOf38 rfl (getD_some (d:=(0:Int)) (show((a.s.thr a.n).aq a.i.a.toNat).toNat<a.s.mem.length by omega)) (by decide) rfl .auto) ?_
       rintro _ _ ⟨rfl,rfl⟩
       refine J 6 ?_
       refine .c call88 rfl (lj (a:=({(a.aj {a.t with pc:=a.t.pc+1 }) with s:={(a.aj {a.t with pc:=a.t.pc+1 }).s with mem:=a.s.mem.set ((a.s.thr a.n).aq a.i.a.toNat).toNat ((a.s.thr a.n).aq a.i.b.toNat) } }:RA)) (x:=((a.s.thr a.n).aq a.i.a.toNat)) (y:=((a.s.thr a.n).aq a.i.b.toNat)) (e:=0) (fin:=true) hn (by show a.s.au.length≤_;omega)) fun _ _=>?_
       refine J 2 ?_
       rw[show a.plain=({(a.aj {a.t with pc:=a.t.pc+1 }) with s:={(a.aj {a.t with pc:=a.t.pc+1 }).s with mem:=a.s.mem.set ((a.s.thr a.n).aq a.i.a.toNat).toNat ((a.s.thr a.n).aq a.i.b.toNat) } }:RA).say ((a.s.thr a.n).aq a.i.a.toNat) ((a.s.thr a.n).aq a.i.b.toNat) 0 true from by unfold RA.plain;exact(if_neg h69).trans ((if_neg h79).trans ((if_neg h87).trans ((if_neg h97).trans (if_pos h133|>.trans (if_neg h142)))))]
       exact JR 0 ()
     ·refine J 1 ?_
      refine .draw [] [1,1,1,1,1,1,1,1,1,1,3,1,1,1,1,1] rfl (by kernel_rfl) ?_
      refine J 8 ?_
      refine .p (.aD a.i.c.toNat underlying39 sizeOf38 rfl rfl (by omega) (by omega)) ?_
      refine .p (.dJ (Y.load isAgg38 rfl (Cell.tr (f:=(a.aj {a.t with pc:=a.t.pc+1 }).s.thr) hn (by omega))) (show _=(a.s.thr a.n).aq a.i.c.toNat by rw[show(a.aj {a.t with pc:=a.t.pc+1 }).s.thr a.n = {a.t with pc:=a.t.pc+1 } from dF];rfl)) ?_
      refine .c call128 rfl (CG (op:=a.i.op) (a:=((a.s.thr a.n).aq a.i.b.toNat)) (b:=(a.s.thr a.n).aq a.i.c.toNat) (by omega) (by omega)) fun y59 _=>?_
      refine J 1 ?_
      refine .p (.extract (v:=.int .u64 (aH a.i.op ((a.s.thr a.n).aq a.i.b.toNat) ((a.s.thr a.n).aq a.i.c.toNat))) rfl rfl) ?_
      refine .p (.extract (v:=.bool y59) rfl rfl) ?_
      refine J 4 ?_
      refine .draw [] [1,1,1,1,1,1,1,3] rfl (by kernel_rfl) ?_
      refine J 6 ?_
      refine .p (.aD a.i.a.toNat underlying39 sizeOf38 rfl rfl (by omega) (by omega)) ?_
      refine .d3 rfl (af.qR sizeOf38 rfl rfl (by first | omega | exact hn) (by first | omega | decide)) ?_
      rintro _ _ ⟨rfl,rfl⟩
      refine J 2 ?_
      rw[show a.plain=(a.aj {a.t with pc:=a.t.pc+1 }).aj ((a.aj {a.t with pc:=a.t.pc+1 }).t.put a.i.a (aH a.i.op ((a.s.thr a.n).aq a.i.b.toNat) ((a.aj {a.t with pc:=a.t.pc+1 }).t.eX a.i.c))) from by unfold RA.plain;exact(if_neg h69).trans ((if_neg h79).trans ((if_neg h87).trans ((if_neg h97).trans (if_neg h133)))),show(a.aj {a.t with pc:=a.t.pc+1 }).t.eX a.i.c=(a.s.thr a.n).aq a.i.c.toNat from by rw[show(a.aj {a.t with pc:=a.t.pc+1 }).t = {a.t with pc:=a.t.pc+1 } from dF];rfl]
      exact JR 0 ()
theorem uE{W:World}{ba b:Nat}{v:RV}{a:RA}{h:Int}(_hn:a.n<16):Fn Tryz.prog W 131 [ptr ba,.int .u64 h] [cB ba b v a] Unit (fun _=>.tuple #[.int .i64 (a.other h).1,.int .i64 (a.other h).2]) (fun _=>True) (fun _=>[cB ba b v a]):=by
 refine Fn.intro (N:=46) func131 rfl ntmps131 rfl fun F=>?_
 show ax _ _ _ _ _ _ [cB ba b v a,F]
 refine J 13 ?_
 refine .cM (X:=Nat) [4,5,6,7,8,9,10,11,12,13,14,15,16,17,18,19,20,21,22,23,24,25,26,27,28,29,30,31,32,33,34,35,36,37,38,39,40,41,42,43,44,45] (fun n=>16-n) (fun n=>n≤16∧cA a.s.thr a.n h (16-n) n=cA a.s.thr a.n h 16 0) (fun n=>[(6,some (.int .i64 (n:Int)))]) (fun n=>[cB ba b v a,F]) 0 ?_ ?_ ?_ ?_
 ·exact⟨Nat.zero_le _,rfl⟩
 ·exact⟨rfl,trivial⟩
 ·exact fun w s=>aK.kept .auto w s
 rintro k ⟨hk,hf⟩
 refine .o2 (C:=cB ba b v (a)) .auto rfl ?_
 rintro vw vl -
 refine .fr (A:=bV b v (a).s) .auto bx ?_
 refine JD 7 (fun h9=>?_) fun h9=>?_
 ·have hst:cA a.s.thr a.n h (16-k) k=cA a.s.thr a.n h ((15-k)+1) k:=by rw[show 16-k=(15-k)+1 from by omega]
  refine J 13 ?_
  refine .p (.aD _ underlying54 sizeOf53 rfl rfl rfl (by first | omega | exact hn | decide)) ?_
  refine .p (.la rfl (Cells.t (by first | omega | exact hn))) ?_
  refine .aw rfl (af.alloc rfl zeroValue53 rfl) ?_
  rintro _ _ ⟨b7,rfl,rfl⟩
  refine J 10 ?_
  apply aQ.gj 5 29 24 [24,25,26,27,28,29] rfl
  ·intro h24
   exact JS 6
  ·intro h24
   exact JS 6
  refine J 1 ?_
  apply aQ.gj 7 37 30 [30,31,32,33,34,35,36,37] rfl
  ·intro h30
   exact JS 8
  ·intro h30
   exact JS 8
  refine J 1 ?_
  apply aQ.gj 3 41 38 [38,39,40,41] rfl
  ·intro h38
   exact JS 4
  ·intro h38
   exact JS 4
  refine JD 2 (fun h41=>?_) fun h41=>?_
  ·simp only[Bool.or_eq_true,decide_eq_true_eq,Bool.not_eq_true'] at h41
   refine J 9 ?_
   refine .bf (k+1) .auto rfl ?_ ?_ ?_ ?_
   ·omega
   ·refine⟨by show k+1≤_;omega,?_⟩
    show cA a.s.thr a.n h (16-(k+1)) (k+1)=_
    rw[← hf,hst,cA,show 16-(k+1)=15-k from by omega]
    exact(if_pos (by rcases h41 with ((e | e) | e) | e;exact .inl e;exact .inr (.inl e);exact .inr (.inr (.inl (by omega)));exact .inr (.inr (.inr e)))).symm
   ·exact⟨rfl,trivial⟩
   ·exact fun w s=>aK.kept .auto w s
  ·simp only[Bool.or_eq_false_iff,decide_eq_false_iff_not,Bool.not_eq_false'] at h41
   have hc:¬((a.s.thr k).used=false∨¬(a.s.thr k).handle=h∨k=a.n∨(a.s.thr k).pA=true):=by
    obtain⟨⟨⟨e1,e2⟩,e3⟩,e4⟩:=h41
    rintro(e | e | e | e)
    ·rw[e] at e1;cases e1
    ·exact e (by simpa using e2)
    ·omega
    ·rw[e] at e4;cases e4
   refine JD 10 (fun h44=>?_) fun h44=>?_
   ·refine J 13 ?_
    refine .eo rfl rfl rfl fun w s=>⟨(),?_,trivial,ar .auto s⟩
    show _=Ending.returned (.tuple #[.int .i64 (cA a.s.thr a.n h 16 0).1,.int .i64 (cA a.s.thr a.n h 16 0).2])
    rw[← hf,hst,cA];try simp only
    rw[if_neg hc,if_pos h44]
   ·refine J 15 ?_
    refine .eo rfl rfl rfl fun w s=>⟨(),?_,trivial,ar .auto s⟩
    show _=Ending.returned (.tuple #[.int .i64 (cA a.s.thr a.n h 16 0).1,.int .i64 (cA a.s.thr a.n h 16 0).2])
    rw[← hf,hst,cA];try simp only
    rw[if_neg hc,if_neg h44]
 ·refine J 12 ?_
  refine .eo rfl rfl rfl fun w s=>⟨(),?_,trivial,ar .auto s⟩
  show _=Ending.returned (.tuple #[.int .i64 (cA a.s.thr a.n h 16 0).1,.int .i64 (cA a.s.thr a.n h 16 0).2])
  rw[← hf,show 16-k=0 from by omega,cA]
theorem Fq{W:World}{ba b:Nat}{v:RV}{a:RA}{h:Int}(hn:a.n<16)(hr:a.s.au.length≤900000000)(hI:jb a.i):Fn Tryz.prog W 130 [ptr ba,.int .u64 h] [cB ba b v a] Unit (fun _=>.tuple #[]) (fun _=>True) (fun _=>[cB ba b v (a.join h)]):=by
 refine Fn.intro (N:=89) func130 rfl ntmps130 rfl fun F=>?_
 show ax _ _ _ _ _ _ [cB ba b v a,F]
 refine .o2 (C:=cB ba b v (a)) .auto rfl ?_
 rintro vw vl -
 refine .fr (A:=bV b v (a).s) .auto bx ?_
 have hIa:=hI.a
 refine J 13 ?_
 refine .c call131 rfl (uE (h:=h) hn) fun _ _=>?_
 refine J 1 ?_
 refine .p (.extract (v:=.int .i64 (a.other h).1) rfl rfl) ?_
 refine .p (.extract (v:=.int .i64 (a.other h).2) rfl rfl) ?_
 refine JD 11 (fun h18=>?_) fun h18=>?_
 ·refine J 5 ?_
  refine .c call129 rfl (cx (a:=a) (x:=h) (y:=0) (e:=(a.other h).2) hn (by omega) (by have:=jl (thr:=a.s.thr) (self:=a.n) (h:=h) (f:=16) (n:=0);show 0≤(cA _ _ _ _ _).2∧(cA _ _ _ _ _).2≤11;omega)) fun _ _=>?_
  refine J 4 ?_
  rw[yn h18]
  exact JR 0 ()
 ·refine J 5 ?_
  obtain⟨m,hm1, -,hm16,hne, -⟩:=qa (show(a.other h).2=0 from Decidable.not_not.mp h18)
  have hm16:m<16:=by omega
  have hm1:(a.other h).1=(m:Int):=hm1
  refine .o2 (C:=cB ba b v (a)) .auto rfl ?_
  rintro vw vl -
  refine .fr (A:=bV b v (a).s) .auto bx ?_
  refine J 4 ?_
  refine .p (.aD m underlying54 sizeOf53 rfl rfl hm1 (by omega)) ?_
  refine J 1 ?_
  refine .p (.ld rfl (Cell.t (by first | omega | exact hn) rfl)) ?_
  refine JD 3 (fun h30=>?_) fun h30=>?_
  ·refine J 1 ?_
   refine .draw [] [1,1,1,1,1,1,1,1,1,1,1,1,1,1,1,1,1,1,1,1,1,1,3] rfl (by kernel_rfl) ?_
   refine J 14 ?_
   refine .p (.aD m underlying54 sizeOf53 rfl rfl hm1 (by omega)) ?_
   refine J 1 ?_
   refine .p (.ld rfl (Cell.t (by first | omega | exact hn) rfl)) ?_
   refine J 2 ?_
   refine .p (.aD _ underlying54 sizeOf53 rfl rfl rfl (by first | omega | exact hn | decide)) ?_
   refine J 1 ?_
   refine .p (.aD a.i.a.toNat underlying39 sizeOf38 rfl rfl (by omega) (by omega)) ?_
   refine .d3 rfl (af.qR sizeOf38 rfl rfl (by first | omega | exact hn) (by first | omega | decide)) ?_
   rintro _ _ ⟨rfl,rfl⟩
   refine J 8 ?_
   refine .p (.aD m underlying54 sizeOf53 rfl rfl hm1 (by omega)) ?_
   refine J 1 ?_
   refine .aw rfl (af.Bu sizeOf4 rfl rfl (by first | omega | exact hn)) ?_
   rintro _ _ ⟨rfl,rfl⟩
   refine J 10 ?_
   refine .p (.aD m underlying54 sizeOf53 rfl rfl hm1 (by omega)) ?_
   refine J 1 ?_
   refine .p (.dJ (Y.load isAgg38 rfl (Cell.t (f:=({(a.aj (a.t.put a.i.a (a.s.thr m).value)) with s:=(a.aj (a.t.put a.i.a (a.s.thr m).value)).s.aj m {(a.aj (a.t.put a.i.a (a.s.thr m).value)).s.t m with used:=false } }:RA).s.thr) (n:=m) (j:=13) hm16 rfl)) (show _=(a.s.thr m).value by rw[show({(a.aj (a.t.put a.i.a (a.s.thr m).value)) with s:=(a.aj (a.t.put a.i.a (a.s.thr m).value)).s.aj m {(a.aj (a.t.put a.i.a (a.s.thr m).value)).s.t m with used:=false } }:RA).s.thr m = {(a.aj (a.t.put a.i.a (a.s.thr m).value)).s.t m with used:=false } from dF];show((a.aj (a.t.put a.i.a (a.s.thr m).value)).s.t m).value=(a.s.thr m).value;rw[show(a.aj (a.t.put a.i.a (a.s.thr m).value)).s.t m=a.s.thr m from jk hne])) ?_
   refine .c call129 rfl (cx (a:=({(a.aj (a.t.put a.i.a (a.s.thr m).value)) with s:=(a.aj (a.t.put a.i.a (a.s.thr m).value)).s.aj m {(a.aj (a.t.put a.i.a (a.s.thr m).value)).s.t m with used:=false } }:RA)) (x:=h) (y:=(a.s.thr m).value) (e:=0) hn (by show a.s.au.length≤_;omega) (by decide)) fun _ _=>?_
   refine J 4 ?_
   rw[yo h18 hm1 h30]
   exact JR 0 ()
  ·refine J 3 ?_
   refine .draw [] [1,1,1,1,1,1,1,1,1,1,1,3] rfl (by kernel_rfl) ?_
   refine J 9 ?_
   refine .p (.aD m underlying54 sizeOf53 rfl rfl hm1 (by omega)) ?_
   refine J 1 ?_
   refine .d3 rfl (af.KY sizeOf3 rfl rfl (by first | omega | exact hn)) ?_
   rintro _ _ ⟨rfl,rfl⟩
   refine J 9 ?_
   refine .p (.add rfl rfl (by omega)) ?_
   refine J 1 ?_
   refine .c call133 rfl (gr (a:=({a with s:=a.s.aj m {a.s.t m with av:=(a.n:Int)+1 } }:RA)) (why:=4) (into:=a.i.a+1) (x:=h) (y:=0) hn (by show a.s.au.length≤_;omega)) fun _ _=>?_
   refine J 1 ?_
   rw[uA h18 hm1 h30]
   exact JR 0 ()
end Go.SLYtefdijgllbkmfaaGreat
namespace Go.SLYtefdijgllbkmfaaGreat
open Go Go.RowKit
theorem mK{α:Type}{l:List α}{n:Nat}:([]++(l.take n).drop 0)++(l.take l.length).drop (n+1)=l.eraseIdx n:=by
 rw[List.nil_append,List.drop_zero,List.take_length,kc]
theorem bI{α:Type}{l:List α}{n:Nat}{x d:α}(h:l[n]?=some x):l.getD n d=x:=by rw[List.getD_eq_getElem?_getD,h];rfl
theorem wL{s:RSp}{m:Nat}{who:Int}{x:gp}(h:s.aF[m]?=some x)(ho:x.owner≠0):s.want m who=(false,{s with aF:=s.aF.set m {x with wait:=x.wait++[who] } }):=by unfold RSp.want;rw[bI h];exact if_pos ho
theorem sO{s:RSp}{m:Nat}{who:Int}{x:gp}(h:s.aF[m]?=some x)(ho:¬x.owner≠0):s.want m who=(true,{s with aF:=s.aF.set m {x with owner:=who+1 } }):=by unfold RSp.want;rw[bI h];exact if_neg ho
theorem Bv{s:RSp}{m:Nat}{c:Int}{x:gp}(h:s.aF[m]?=some x)(hw:x.wait.length=0):s.open m c=(0,{s with aF:=s.aF.set m {x with owner:=0 } }):=by unfold RSp.open;rw[bI h];exact if_pos hw
theorem yp{s:RSp}{m:Nat}{c:Int}{x:gp}(h:s.aF[m]?=some x)(hw:¬x.wait.length=0):s.open m c=(x.wait.getD (pick c x.wait.length) 0+1,{s with aF:=s.aF.set m ⟨x.wait.getD (pick c x.wait.length) 0+1,x.wait.eraseIdx (pick c x.wait.length)⟩ }):=by unfold RSp.open;rw[bI h];exact if_neg hw
def Ml(v:Value)(n:Nat):Prop:=∃ b cap,v = .slice (some ⟨b,0,none⟩) n cap
section
variable{P:Program}{W:World}{N:Nat}{L:List (Nat×Option Value)}{H:List aa}{T:TypeId}
theorem Y.tu{k:Nat}{x y:Operand}{t e:TypeId}{v:Value}{n:Nat}{kd:IntKind}{j:Int}(i:Nat)(hu:P.underlying t=some (.slice e))(hz:∀ w,(sizeOf e).run P w = .ok k w)(hx:ev L x=some v)(hy:ev L y=some (.int kd j))(h:Ml v n)(hj:j=(i:Int))(hi:i<n) :
  Y P W N (.indexAddr t x y) T L H (.pointer (some ⟨blk v,cC v+i * k,none⟩)):=fun dst pos after guard a w ha hs=>by
 obtain⟨b,cap,rfl⟩:=h
 subst hj
 simp only[execOp,ha.eval hx,ha.eval hy]
 refine bJ ?_
 simp[Instr.indexAt,asIntOf,run_underlying hu,hi,hz,dV,blk,cC]
end
section
variable{β γ:Type}{enc:γ×β→List Value}{k:Nat}{inner:γ×β→aa}{v:Value}{l:List β}
theorem eV(h0:0<l.length):∀ h,eG enc k inner v l h→Ml v l.length:=fun h ⟨xs,hxs,a⟩=>by
 rw[gX] at a
 obtain⟨h1,h2,a1,_,_,_⟩:=a
 have hl:xs.length=l.length:=by rw[← List.length_map (f:=(·.2)),hxs]
 obtain⟨b,cap,e,_⟩:=j9 (fun e=>by rw[e] at hl;simp at hl;omega) h1 a1
 exact⟨b,cap,by rw[e,hl]⟩
end
/-! a signal -/
def ft(a:RA)(L:List dh)(choice:Int):List dh:=if a.i.op=28∧0<L.length then [L.getD (pick choice L.length) ⟨0,0⟩] else L
def pe(a:RA)(L:List dh)(choice:Int):List dh:=if a.i.op=28∧0<L.length then L.eraseIdx (pick choice L.length) else []
def mT(a:RA)(c:Nat)(choice:Int):RA:={a.done a.i.n 0 0 with s:={(a.done a.i.n 0 0).s with bn:=a.s.bn.set c (pe a (a.s.bn.getD c []) choice) } }
theorem uF{a:RA}{c:Nat}{choice:Int}:a.signal c choice=rSignal (mT a c choice) (ft a (a.s.bn.getD c []) choice):=by
 unfold RA.signal mT pe ft
 show(if a.i.op=28∧0<(a.s.bn.getD c []).length then _ else _)=_
 split <;> rfl
def ff(a:RA)(w:dh):RA:=if (a.s.want w.mutex.toNat w.who).1=true then ({a with s:=(a.s.want w.mutex.toNat w.who).2 }:RA).free w.who.toNat 0 else {a with s:=(a.s.want w.mutex.toNat w.who).2.aj w.who.toNat {(a.s.want w.mutex.toNat w.who).2.t w.who.toNat with why:=1 } }
theorem pf{a:RA}{w:dh}{l:List dh}:rSignal a (w::l)=rSignal (ff a w) l:=by
 rw[rSignal];unfold ff;simp only;split <;> rfl
theorem w8.cV{t:RT}(h:w8 t){y:Int}(hy:0≤y∧y≤18446744073709551615):w8 (t.cV y):=by
 have hp:∀ (u:RT) (a v:Int),w8 u→0≤v∧v≤18446744073709551615→w8 (u.put a v):=fun u a v hu hv=>⟨fun k=>by
  show 0≤dU u.aq a.toNat v k∧dU u.aq a.toNat v k≤_
  unfold dU;split;exact hv;exact hu.r k,hu.i,hu.j,hu.p,hu.v⟩
 have h1:w8 ((if t.into=0 then t else t.put (t.into-1) y).put 7 0):=hp _ _ _ (by split;exact h;exact hp _ _ _ h hy) ⟨by decide,by decide⟩
 exact⟨h1.r,⟨(by decide:(0:Int)≤0),(by decide:(0:Int)≤8)⟩,h1.j,h1.p,h1.v⟩
theorem fT.dn{s:RSp}(h:fT s){n:Nat}{y:Int}(hy:0≤y∧y≤18446744073709551615):fT (s.dn n y):=h.dU rfl ((h n).cV hy)
theorem yq{s:RSp}{m:Nat}{who:Int}:(s.want m who).2.thr=s.thr∧(s.want m who).2.aF.length=s.aF.length:=by
 unfold RSp.want;simp only;split <;> exact⟨rfl,List.length_set⟩
theorem CN{s:RSp}{m:Nat}{who:Int}{k:Nat}(h:∀ x∈s.aF,x.wait.length≤k):∀ x∈(s.want m who).2.aF,x.wait.length≤k+1:=fun x hx=>by
 have hd:(s.aF.getD m ⟨0,[]⟩).wait.length≤k:=by
  rw[List.getD_eq_getElem?_getD]
  cases e:s.aF[m]? with
  | none=>exact Nat.zero_le _
  | some z=>exact h z (List.mem_of_getElem? e)
 unfold RSp.want at hx;simp only at hx
 split at hx
 all_goals
  rcases List.mem_or_eq_of_mem_set hx with e | e
  ·have:=h x e;omega
  ·subst e;first | exact Nat.le_succ_of_le hd | (show((s.aF.getD m ⟨0,[]⟩).wait++[who]).length≤k+1;rw[List.length_append,List.length_singleton];omega)
structure wM(a0:RA)(l0:List dh)(j:Nat)(a:RA):Prop where
 hj:j≤l0.length
 eq:rSignal a (l0.drop j)=rSignal a0 l0
 n:a.n=a0.n
 T:fT a.s
 l:a.late.length≤a0.late.length+j
 w:a.e.aM.length≤a0.e.aM.length+j
 ml:a.s.aF.length=a0.s.aF.length
 mw:∀ x∈a.s.aF,x.wait.length≤1000000+j
theorem wM.zero{a0:RA}{l0:List dh}(hT:fT a0.s)(hm:∀ x∈a0.s.aF,x.wait.length≤1000000):wM a0 l0 0 a0:=⟨Nat.zero_le _,rfl,rfl,hT,Nat.le_refl _,Nat.le_refl _,rfl,hm⟩
theorem wM.next{a0 a:RA}{l0:List dh}{j:Nat}{w:dh}(h:wM a0 l0 j a)(hw:l0[j]?=some w):wM a0 l0 (j+1) (ff a w):=by
 have hj:=(List.getElem?_eq_some_iff.1 hw).1
 have hd:l0.drop j=w::l0.drop (j+1):=by
  rw[List.drop_eq_getElem_cons hj];congr 1;exact(List.getElem?_eq_some_iff.1 hw).2
 have hwt:=yq (s:=a.s) (m:=w.mutex.toNat) (who:=w.who)
 have hwa:=CN (s:=a.s) (m:=w.mutex.toNat) (who:=w.who) h.mw
 have hT2:fT (a.s.want w.mutex.toNat w.who).2:=fun m=>by rw[hwt.1];exact h.T m
 have he:rSignal (ff a w) (l0.drop (j+1))=rSignal a0 l0:=by rw[← h.eq,hd,pf]
 refine⟨hj,he,?_,?_,?_,?_,?_,?_⟩
 all_goals unfold ff;split
 ·exact h.n
 ·exact h.n
 ·exact hT2.dn ⟨by decide,by decide⟩
 ·exact hT2.dU rfl ⟨(hT2 _).r,(hT2 _).i,(hT2 _).j,(hT2 _).p,(hT2 _).v⟩
 ·show(a.late++[_]).length≤_;have:=h.l;rw[List.length_append,List.length_singleton];omega
 ·show a.late.length≤_;have:=h.l;omega
 ·show(a.e.aM++[_]).length≤_;have:=h.w;rw[List.length_append,List.length_singleton];omega
 ·show a.e.aM.length≤_;have:=h.w;omega
 ·exact hwt.2.trans h.ml
 ·exact hwt.2.trans h.ml
 ·intro x hx;have:=hwa x hx;omega
 ·intro x hx;have:=hwa x hx;omega
theorem wM.done{a0 a:RA}{l0:List dh}{j:Nat}(h:wM a0 l0 j a)(hj:¬j<l0.length):rSignal a0 l0=a:=by
 rw[← h.eq,List.drop_of_length_le (by omega)];rfl
end Go.SLYtefdijgllbkmfaaGreat
namespace Go.SLYtefdijgllbkmfaaGreat
open Go Go.RowKit Go.Proofs Go.Proofs.Tryz
attribute [local irreducible] ax aQ bu cj bQ Y
theorem mh{W:World}{A:aa}{v:Value}{l:List Int}{n:Nat}(hr:Rd W [A] aL 1 v l)(hn:n<l.length)(hl:l.length≤100000000):Fn Tryz.prog W 188 [v,.int .i64 (n:Int)] [A] Value (fun u=>u) (fun _=>True) (fun u=>[sl aL 1 u (l.eraseIdx n),A]):=by
 refine Fn.intro (N:=15) func188 rfl ntmps188 rfl fun F=>?_
 haveI hRI:∀ (H:List aa) [bX H A],aI W H v aL 1 l:=fun H h=>⟨hr.at h.has⟩
 have hr1:=hr.cut (lo:=0) (hi:=n) (Nat.zero_le _) (by omega)
 have hr2:=hr.cut (lo:=n+1) (hi:=l.length) (by omega) (Nat.le_refl _)
 haveI hRI:∀ (H:List aa) [bX H A],aI W H (cut 1 0 n v) aL 1 ((l.take n).drop 0):=fun H h=>⟨hr1.at h.has⟩
 haveI hRI:∀ (H:List aa) [bX H A],aI W H (cut 1 (n+1) l.length v) aL 1 ((l.take l.length).drop (n+1)):=fun H h=>⟨hr2.at h.has⟩
 show ax _ _ _ _ _ _ [A,F]
 refine J 6 ?_
 refine .draw [A] [2,0,0,0,2,0,0,0,0,3,1] rfl (by kernel_rfl) ?_
 refine .d2 rfl Kept.auto (af.gQ 3 rfl rfl (by kernel_rfl)) (by rintro _ _ ⟨b5,rfl,rfl⟩;exact Kept.auto) ?_
 rintro _ _ ⟨b5,rfl,rfl⟩
 refine .to (A:=sl aL 1 (.slice (some ⟨b5,0,none⟩) 0 0) ([]:List Int)) (Bs:=[]) .nil (fun h e=>.inl ⟨⟨_,rfl⟩,rfl,e⟩) ?_
 refine J 2 ?_
 refine .q (.sliceTo n underlying23 sizeOf3 rfl rfl Rd.s rfl (by omega)) ?_
 refine .d2 rfl Kept.auto (af.append rfl underlying23 underlying23 typeInfo3 rfl rfl rfl (by decide) rfl rfl .auto Rd.s (by simp;omega) (nU _)) (by rintro _ _ ⟨v9,rfl,rfl⟩;exact Kept.auto) ?_
 rintro _ _ ⟨v9,rfl,rfl⟩
 refine J 3 ?_
 refine .q (.sliceFrom (n+1) underlying23 sizeOf3 rfl rfl Rd.s rfl (by omega)) ?_
 refine .d3 rfl (af.append rfl underlying23 underlying23 typeInfo3 rfl rfl rfl (by decide) rfl rfl .auto Rd.s (by simp;omega) (nU _)) ?_
 rintro _ _ ⟨v14,rfl,rfl⟩
 refine J 4 ?_
 rw[mK]
 exact JR 0 v14
theorem yr{W:World}{b:Nat}{v:RV}{s:RSp}{who:Int}{m:Nat}{x:gp}(hx:s.aF[m]?=some x)(_hm:s.aF.length≤1000000)(hw:x.wait.length≤100000000)(h0:0≤who∧who<16):Fn Tryz.prog W 185 [ptr b,.int .i64 (m:Int),.int .i64 who] [bV b v s] Unit (fun _=>.bool (s.want m who).1) (fun _=>True) (fun _=>[bV b v (s.want m who).2]):=by
 refine Fn.intro (N:=43) func185 rfl ntmps185 rfl fun F=>?_
 show ax _ _ _ _ _ _ [bV b v s,F]
 refine .fr (A:=bV b v s) .auto bx ?_
 refine .o1 (C:=zW b (s).aF) .auto rfl ?_
 rintro vM -
 have hlt:=(List.getElem?_eq_some_iff.1 hx).1
 refine .fb (fun w st=>st.fact .auto (eV (Nat.lt_of_le_of_lt (Nat.zero_le _) hlt))) fun hS=>?_
 refine .fr .auto (fR (enc:=ef) (k:=2) (inner:=ej) (fun _=>rfl) hx) ?_
 refine .o1 (C:=cI ef ej (blk vM) (cC vM+m * 2) x) .auto rfl ?_
 rintro uw -
 rw[show ej (uw,x)=sl aL 1 uw x.wait from rfl,show ef (uw,x)=[.int .i64 x.owner,uw] from rfl]
 refine J 13 ?_
 refine .p (.tu m underlying56 sizeOf287 rfl rfl hS rfl hlt) ?_
 refine JD 5 (fun h15=>?_) fun h15=>?_
 ·refine J 1 ?_
  refine .draw [arr b 313 [vM],arr (blk vM) (cC vM+m * 2) [.int .i64 x.owner,uw]] [0,0,0,0,0,0,0,0,0,0,0,0,0,1,2,2,1,1,3] rfl (by kernel_rfl) ?_
  refine J 10 ?_
  refine .q (.tu m underlying56 sizeOf287 rfl rfl hS rfl hlt) ?_
  refine J 3 ?_
  refine .d2 rfl Kept.auto (af.gQ 3 rfl rfl (by kernel_rfl)) (by rintro _ _ ⟨b30,rfl,rfl⟩;exact Kept.auto) ?_
  rintro _ _ ⟨b30,rfl,rfl⟩
  refine .d2 rfl Kept.auto (af.fi (enc:=aL) (k:=1) who rfl underlying23 underlying23 typeInfo3 rfl rfl rfl (by decide) rfl rfl rfl .auto rfl .auto (by omega) rfl) (by rintro _ _ ⟨v31,rfl,rfl⟩;exact Kept.auto) ?_
  rintro _ _ ⟨v31,rfl,rfl⟩
  refine .p (.tu m underlying56 sizeOf287 rfl rfl hS rfl hlt) ?_
  refine J 1 ?_
  refine .d3 rfl (af.vH sizeOf23 rfl rfl rfl) ?_
  rintro _ _ ⟨rfl,rfl⟩
  refine J 9 ?_
  refine .to (A:=eG ef 2 ej vM (s.aF.set m {x with wait:=x.wait++[who] })) (Bs:=[cI ef ej (blk vM) (cC vM+m * 2) {x with wait:=x.wait++[who] },gS ef 2 ej vM s.aF m]) .auto (gg {x with wait:=x.wait++[who] }) ?_
  rw[wL hx h15]
  exact JR 0 ()
 ·refine J 10 ?_
  refine .p (.add rfl rfl (by omega)) ?_
  refine .p (.tu m underlying56 sizeOf287 rfl rfl hS rfl hlt) ?_
  refine J 1 ?_
  refine .aw rfl (af.Ik sizeOf3 rfl rfl rfl rfl) ?_
  rintro _ _ ⟨rfl,rfl⟩
  refine J 8 ?_
  refine .to (A:=eG ef 2 ej vM (s.aF.set m {x with owner:=who+1 })) (Bs:=[cI ef ej (blk vM) (cC vM+m * 2) {x with owner:=who+1 },gS ef 2 ej vM s.aF m]) .auto (gg {x with owner:=who+1 }) ?_
  rw[sO hx h15]
  exact JR 0 ()
theorem yt{W:World}{b:Nat}{v:RV}{s:RSp}{choice:Int}{m:Nat}{x:gp}(hx:s.aF[m]?=some x)(_hm:s.aF.length≤1000000)(hw:x.wait.length≤100000000)(h0:∀ w∈x.wait,0≤w∧w<16):Fn Tryz.prog W 186 [ptr b,.int .i64 (m:Int),.int .i64 choice] [bV b v s] Unit (fun _=>.int .i64 (s.open m choice).1) (fun _=>True) (fun _=>[bV b v (s.open m choice).2]):=by
 refine Fn.intro (N:=57) func186 rfl ntmps186 rfl fun F=>?_
 show ax _ _ _ _ _ _ [bV b v s,F]
 refine .fr (A:=bV b v s) .auto bx ?_
 refine .o1 (C:=zW b (s).aF) .auto rfl ?_
 rintro vM -
 have hlt:=(List.getElem?_eq_some_iff.1 hx).1
 refine .fb (fun w st=>st.fact .auto (eV (Nat.lt_of_le_of_lt (Nat.zero_le _) hlt))) fun hS=>?_
 refine .fr .auto (fR (enc:=ef) (k:=2) (inner:=ej) (fun _=>rfl) hx) ?_
 refine .o1 (C:=cI ef ej (blk vM) (cC vM+m * 2) x) .auto rfl ?_
 rintro uw -
 rw[show ej (uw,x)=sl aL 1 uw x.wait from rfl,show ef (uw,x)=[.int .i64 x.owner,uw] from rfl]
 refine J 12 ?_
 refine .p (.tu m underlying56 sizeOf287 rfl rfl hS rfl hlt) ?_
 refine J 12 ?_
 refine .p (.tu m underlying56 sizeOf287 rfl rfl hS rfl hlt) ?_
 refine J 1 ?_
 refine .aw rfl (af.Ik sizeOf3 rfl rfl rfl rfl) ?_
 rintro _ _ ⟨rfl,rfl⟩
 refine JD 10 (fun h27=>?_) fun h27=>?_
 ·refine J 7 ?_
  refine .to (A:=eG ef 2 ej vM (s.aF.set m {x with owner:=0 })) (Bs:=[cI ef ej (blk vM) (cC vM+m * 2) {x with owner:=0 },gS ef 2 ej vM s.aF m]) .auto (gg {x with owner:=0 }) ?_
  rw[Bv hx (by omega)]
  exact JR 0 ()
 ·refine J 4 ?_
  have hpk:pick choice x.wait.length<x.wait.length:=fc (by omega)
  refine J 3 ?_
  refine .c call94 rfl (o0 (c:=choice) (n:=x.wait.length) (by omega) (by omega)) fun _ _=>?_
  refine J 7 ?_
  refine .p (.ig (pick choice x.wait.length) underlying23 sizeOf3 rfl rfl Rd.s rfl hpk) ?_
  refine .p (.ld rfl (Cell.za Rd.s (getD_some (d:=(0:Int)) hpk) (by rfl))) ?_
  refine J 4 ?_
  refine .draw [arr b 313 [vM]] [0,0,0,0,0,1,1,2,1,1,3] rfl (by kernel_rfl) ?_
  refine J 7 ?_
  refine .c2 call188 rfl (mh (A:=sl aL 1 uw x.wait) (n:=(pick choice x.wait.length)) (Rd.sl .here) hpk (by omega)) fun u43 _=>?_
  refine .p (.tu m underlying56 sizeOf287 rfl rfl hS rfl hlt) ?_
  refine J 1 ?_
  refine .d3 rfl (af.vH sizeOf23 rfl rfl rfl) ?_
  rintro _ _ ⟨rfl,rfl⟩
  refine J 10 ?_
  refine .p (.add rfl rfl (by have:=h0 _ (List.mem_of_getElem? (getD_some (d:=(0:Int)) hpk));omega)) ?_
  refine .p (.tu m underlying56 sizeOf287 rfl rfl hS rfl hlt) ?_
  refine J 1 ?_
  refine .aw rfl (af.Ik sizeOf3 rfl rfl rfl rfl) ?_
  rintro _ _ ⟨rfl,rfl⟩
  refine J 5 ?_
  refine .p (.add rfl rfl (by have:=h0 _ (List.mem_of_getElem? (getD_some (d:=(0:Int)) hpk));omega)) ?_
  refine J 4 ?_
  refine .to (A:=eG ef 2 ej vM (s.aF.set m (⟨x.wait.getD (pick choice x.wait.length) 0+1,x.wait.eraseIdx (pick choice x.wait.length)⟩:gp))) (Bs:=[cI ef ej (blk vM) (cC vM+m * 2) (⟨x.wait.getD (pick choice x.wait.length) 0+1,x.wait.eraseIdx (pick choice x.wait.length)⟩:gp),gS ef 2 ej vM s.aF m]) .auto (gg (⟨x.wait.getD (pick choice x.wait.length) 0+1,x.wait.eraseIdx (pick choice x.wait.length)⟩:gp)) ?_
  rw[yp hx (by omega)]
  exact JR 0 ()
theorem zX{W:World}{ba b:Nat}{v:RV}{a:RA}{c:Nat}{choice:Int}(hn:a.n<16)(hT:fT a.s)(hl:a.late.length≤500000)(hw:a.e.aM.length≤500000)(hr:a.s.au.length≤900000000)(hc:c<a.s.bn.length)(_hcl:a.s.bn.length≤1000000)(hll:(a.s.bn.getD c []).length≤100000)(hm:a.s.aF.length≤1000000)(hmw:∀ x∈a.s.aF,x.wait.length≤1000000)(hwt:∀ w∈(a.s.bn.getD c []),(0≤w.who∧w.who<16)∧0≤w.mutex∧w.mutex<(a.s.aF.length:Int)):Fn Tryz.prog W 187 [ptr ba,.int .i64 (c:Int),.int .i64 choice] [cB ba b v a] Unit (fun _=>.tuple #[]) (fun _=>True) (fun _=>[cB ba b v (a.signal c choice)]):=by
 refine Fn.intro (N:=107) func187 rfl ntmps187 rfl fun F=>?_
 show ax _ _ _ _ _ _ [cB ba b v a,F]
 refine .o2 (C:=cB ba b v (a)) .auto rfl ?_
 rintro vw vl -
 refine .fr (A:=bV b v (a).s) .auto bx ?_
 have hgc:a.s.bn[c]?=some (a.s.bn.getD c []):=getD_some hc
 have hT1:fT (mT a c choice).s:=hT.dU (n:=a.n) (t:=a.t.put 7 0) rfl ⟨fun k=>by
  show 0≤dU (a.s.thr a.n).aq 7 0 k∧dU (a.s.thr a.n).aq 7 0 k≤_
  unfold dU;split;exact⟨by decide,by decide⟩;exact(hT a.n).r k,(hT a.n).i,(hT a.n).j,(hT a.n).p,(hT a.n).v⟩
 have hS0:=wM.zero (a0:=(mT a c choice)) (l0:=(ft a (a.s.bn.getD c []) choice)) hT1 hmw
 refine J 17 ?_
 refine .c call129 rfl (cx (a:=a) (x:=a.i.n) (y:=0) (e:=0) hn (by omega) (by decide)) fun _ _=>?_
 refine J 4 ?_
 refine .o2 (C:=cB ba b v ((a.done a.i.n 0 0))) .auto rfl ?_
 rintro vw vl -
 refine .fr (A:=bV b v ((a.done a.i.n 0 0)).s) .auto bx ?_
 refine .o1 (C:=Ht b a.s.bn) .auto rfl ?_
 rintro vC -
 refine .fb (fun w st=>st.fact .auto (eV (Nat.lt_of_le_of_lt (Nat.zero_le _) hc))) fun hSC=>?_
 refine .fr .auto (fR (enc:=cn) (k:=1) (inner:=lH) (fun _=>rfl) hgc) ?_
 refine .o1 (C:=cI cn lH (blk vC) (cC vC+c * 1) (a.s.bn.getD c [])) .auto rfl ?_
 rintro uC -
 rw[show lH (uC,(a.s.bn.getD c []))=sl cN 2 uC (a.s.bn.getD c []) from rfl,show cn (uC,(a.s.bn.getD c []))=[uC] from rfl]
 refine J 5 ?_
 refine .p (.tu c underlying57 sizeOf288 rfl rfl hSC rfl hc) ?_
 refine J 10 ?_
 refine .nJ (X:=Value) [8,9,30,31,32,33,34,35,36,37,38,39,40,41,42,43,44,45,46,47,48,49,50,51,52,53,54,55,56,57,58,59,60,61,62,63,64,65,66,67,68,69,70,71] (fun _=>True) (fun z=>[(8,some z)]) (fun z=>[sl cN 2 z (ft a (a.s.bn.getD c []) choice),cB ba b v (mT a c choice),F]) ?_ ?_
 ·refine J 9 ?_
  apply aQ.fZ 4 40 36 [36,37,38,39,40] rfl
  ·intro h36
   exact JS 5
  ·intro h36
   exact JS 5
  refine JD 2 (fun h40=>?_) fun h40=>?_
  ·simp only[Bool.and_eq_true,decide_eq_true_eq] at h40
   have h40:a.i.op=28∧0<(a.s.bn.getD c []).length:=⟨h40.1,by have:=h40.2;omega⟩
   refine J 2 ?_
   have hpk:(pick choice (a.s.bn.getD c []).length)<(a.s.bn.getD c []).length:=fc h40.2
   have hr0:Rd W [sl cN 2 uC (a.s.bn.getD c [])] cN 2 uC (a.s.bn.getD c []):=Rd.sl .here
   have hr1:=hr0.cut (lo:=0) (hi:=(pick choice (a.s.bn.getD c []).length)) (Nat.zero_le _) (by omega)
   have hr2:=hr0.cut (lo:=(pick choice (a.s.bn.getD c []).length)+1) (hi:=(a.s.bn.getD c []).length) (by omega) (Nat.le_refl _)
   haveI hI1:∀ (H:List aa) [bX H (sl cN 2 uC (a.s.bn.getD c []))],aI W H (cut 2 0 (pick choice (a.s.bn.getD c []).length) uC) cN 2 (((a.s.bn.getD c []).take (pick choice (a.s.bn.getD c []).length)).drop 0):=fun H h=>⟨hr1.at h.has⟩
   haveI hI2:∀ (H:List aa) [bX H (sl cN 2 uC (a.s.bn.getD c []))],aI W H (cut 2 ((pick choice (a.s.bn.getD c []).length)+1) (a.s.bn.getD c []).length uC) cN 2 (((a.s.bn.getD c []).take (a.s.bn.getD c []).length).drop ((pick choice (a.s.bn.getD c []).length)+1)):=fun H h=>⟨hr2.at h.has⟩
   refine J 3 ?_
   refine .c call94 rfl (o0 (c:=choice) (n:=(a.s.bn.getD c []).length) (by omega) (by omega)) fun _ _=>?_
   refine J 7 ?_
   refine .p (.ig (pick choice (a.s.bn.getD c []).length) underlying288 sizeOf290 rfl rfl Rd.s rfl hpk) ?_
   refine .p (.la rfl (Cells.rd Rd.s (getD_some (d:=(⟨0,0⟩:dh)) hpk))) ?_
   refine .aw rfl (af.gQ 290 rfl rfl (by kernel_rfl)) ?_
   rintro _ _ ⟨b49,rfl,rfl⟩
   refine .to (A:=sl cN 2 (.slice (some ⟨b49,0,none⟩) 1 1) [(a.s.bn.getD c []).getD (pick choice (a.s.bn.getD c []).length) ⟨0,0⟩]) (Bs:=[arr b49 0 (cN ((a.s.bn.getD c []).getD (pick choice (a.s.bn.getD c []).length) ⟨0,0⟩))]) .auto (vA _ rfl (fun _ _=>rfl) (by simp[rows])) ?_
   refine J 3 ?_
   refine .draw [arr b 314 [vC],sl cN 2 uC (a.s.bn.getD c [])] [0,0,0,0,0,2,0,0,0,2,0,0,0,0,2,1,3] rfl (by kernel_rfl) ?_
   refine J 5 ?_
   refine .d2 rfl Kept.auto (af.gQ 290 rfl rfl (by kernel_rfl)) (by rintro _ _ ⟨b55,rfl,rfl⟩;exact Kept.auto) ?_
   rintro _ _ ⟨b55,rfl,rfl⟩
   refine .to (A:=sl cN 2 (.slice (some ⟨b55,0,none⟩) 0 0) ([]:List dh)) (Bs:=[]) .nil (fun h e=>.inl ⟨⟨_,rfl⟩,rfl,e⟩) ?_
   refine J 2 ?_
   refine .q (.sliceTo (pick choice (a.s.bn.getD c []).length) underlying288 sizeOf290 rfl rfl Rd.s rfl (by omega)) ?_
   refine .d2 rfl Kept.auto (af.append rfl underlying288 underlying288 typeInfo290 rfl rfl rfl (by decide) rfl rfl .auto Rd.s (by simp only[List.length_nil,List.length_drop,List.length_take];omega) (rR _)) (by rintro _ _ ⟨v59,rfl,rfl⟩;exact Kept.auto) ?_
   rintro _ _ ⟨v59,rfl,rfl⟩
   refine J 3 ?_
   refine .q (.sliceFrom ((pick choice (a.s.bn.getD c []).length)+1) underlying288 sizeOf290 rfl rfl Rd.s rfl (by omega)) ?_
   refine .d2 rfl Kept.auto (af.append rfl underlying288 underlying288 typeInfo290 rfl rfl rfl (by decide) rfl rfl .auto Rd.s (by simp only[List.length_nil,List.length_append,List.length_drop,List.length_take];omega) (rR _)) (by rintro _ _ ⟨v64,rfl,rfl⟩;exact Kept.auto) ?_
   rintro _ _ ⟨v64,rfl,rfl⟩
   refine .p (.tu c underlying57 sizeOf288 rfl rfl hSC rfl hc) ?_
   refine .d3 rfl (af.nf sizeOf288 rfl rfl rfl) ?_
   rintro _ _ ⟨rfl,rfl⟩
   refine J 1 ?_
   rw[mK]
   have e1:(ft a (a.s.bn.getD c []) choice)=[(a.s.bn.getD c []).getD (pick choice (a.s.bn.getD c []).length) ⟨0,0⟩]:=by unfold ft;rw[if_pos h40]
   have e2:(pe a (a.s.bn.getD c []) choice)=(a.s.bn.getD c []).eraseIdx (pick choice (a.s.bn.getD c []).length):=by unfold pe;rw[if_pos h40]
   refine .to (A:=eG cn 1 lH vC (a.s.bn.set c ((a.s.bn.getD c []).eraseIdx (pick choice (a.s.bn.getD c []).length)))) (Bs:=[cI cn lH (blk vC) (cC vC+c * 1) ((a.s.bn.getD c []).eraseIdx (pick choice (a.s.bn.getD c []).length)),gS cn 1 lH vC a.s.bn c]) .auto (gg ((a.s.bn.getD c []).eraseIdx (pick choice (a.s.bn.getD c []).length))) ?_
   refine .eY (.slice (some ⟨b49,0,none⟩) 1 1) .auto ?_ ?_ ?_
   ·trivial
   ·exact⟨rfl,trivial⟩
   ·rw[e1,show(mT a c choice) = {(a.done a.i.n 0 0) with s:={(a.done a.i.n 0 0).s with bn:=a.s.bn.set c ((a.s.bn.getD c []).eraseIdx (pick choice (a.s.bn.getD c []).length)) } } from by unfold mT;rw[e2]];exact fun w s=>aK.kept .auto w s
  ·simp only[Bool.and_eq_false_iff,decide_eq_false_iff_not] at h40
   refine J 6 ?_
   refine .p (.tu c underlying57 sizeOf288 rfl rfl hSC rfl hc) ?_
   refine .aw rfl (af.Ik sizeOf288 rfl rfl rfl rfl) ?_
   rintro _ _ ⟨rfl,rfl⟩
   refine J 1 ?_
   have h40:¬(a.i.op=28∧0<(a.s.bn.getD c []).length):=fun h=>by rcases h40 with e | e;exact e h.1;exact e (by omega)
   have e1:(ft a (a.s.bn.getD c []) choice)=(a.s.bn.getD c []):=by unfold ft;rw[if_neg h40]
   have e2:(pe a (a.s.bn.getD c []) choice)=[]:=by unfold pe;rw[if_neg h40]
   refine .to (A:=eG cn 1 lH vC (a.s.bn.set c ([]:List dh))) (Bs:=[cI cn lH (blk vC) (cC vC+c * 1) ([]:List dh),gS cn 1 lH vC a.s.bn c]) .auto (gg ([]:List dh)) ?_
   refine .eY uC .auto ?_ ?_ ?_
   ·trivial
   ·exact⟨rfl,trivial⟩
   ·rw[e1,show(mT a c choice) = {(a.done a.i.n 0 0) with s:={(a.done a.i.n 0 0).s with bn:=a.s.bn.set c [] } } from by unfold mT;rw[e2]];exact fun w s=>aK.kept .auto w s
 ·rintro uO -
  have hwO:∀ w∈(ft a (a.s.bn.getD c []) choice),(0≤w.who∧w.who<16)∧0≤w.mutex∧w.mutex<(a.s.aF.length:Int):=fun w hw=>hwt w (by
   unfold ft at hw
   split at hw
   ·rename_i h;rw[List.mem_singleton.1 hw];exact List.mem_of_getElem? (getD_some (d:=(⟨0,0⟩:dh)) (fc h.2))
   ·exact hw)
  have hOl:(ft a (a.s.bn.getD c []) choice).length≤100000:=by
   unfold ft;split
   ·show 1≤_;decide
   ·exact hll
  refine J 6 ?_
  refine .cM (X:=Nat×RA) [10,72,73,74,75,76,77,78,79,80,81,82,83,84,85,86,87,88,89,90,91,92,93,94,95,96,97,98,99,100,101,102,103,104,105,106] (fun z=>(ft a (a.s.bn.getD c []) choice).length-z.1) (fun z=>wM (mT a c choice) (ft a (a.s.bn.getD c []) choice) z.1 z.2) (fun z=>[(10,some (.int .i64 (z.1:Int)))]) (fun z=>[sl cN 2 uO (ft a (a.s.bn.getD c []) choice),cB ba b v z.2,F]) (0,(mT a c choice)) ?_ ?_ ?_ ?_
  ·exact hS0
  ·exact⟨rfl,trivial⟩
  ·exact fun w s=>aK.kept .auto w s
  rintro⟨j,r⟩ hS
  simp only at hS
  have hj:=hS.hj
  have hln:r.n<16:=by rw[hS.n];exact hn
  have hlt2:=hS.l
  have hlt3:=hS.w
  refine JD 9 (fun h75=>?_) fun h75=>?_
  ·refine J 5 ?_
   refine .o2 (C:=cB ba b v (r)) .auto rfl ?_
   rintro vw vl -
   refine .fr (A:=bV b v (r).s) .auto bx ?_
   refine .draw [] [1,1,1,1,1,1,1,1,1,1,1,3] rfl (by kernel_rfl) ?_
   obtain⟨w,hwj⟩:=ay (show j<(ft a (a.s.bn.getD c []) choice).length by omega)
   obtain⟨⟨hw0,hw16⟩,hm0,hm1⟩:=hwO w (List.mem_of_getElem? hwj)
   obtain⟨x,hx⟩:=ay (show w.mutex.toNat<r.s.aF.length by rw[hS.ml];show _<a.s.aF.length;omega)
   refine J 3 ?_
   refine .p (.ix j rfl rfl rfl (by omega)) ?_
   refine J 1 ?_
   refine .p (.dJ (Y.load isAgg3 rfl (Cell.rd (c:=1) Rd.s hwj (by rfl))) (show w.mutex=((w.mutex.toNat:Nat):Int) by omega)) ?_
   refine J 2 ?_
   refine .p (.ix j rfl rfl rfl (by omega)) ?_
   refine J 1 ?_
   refine .p (.lr rfl hwj) ?_
   refine .c call185 rfl (yr (s:=r.s) (who:=w.who) hx (by rw[hS.ml];exact hm) (by have:=hS.mw x (List.mem_of_getElem? hx);omega) (by omega)) fun _ _=>?_
   refine JD 2 (fun h89=>?_) fun h89=>?_
   ·refine J 4 ?_
    refine .p (.ix j rfl rfl rfl (by omega)) ?_
    refine J 1 ?_
    refine .p (.dJ (Y.load isAgg3 rfl (Cell.za Rd.s hwj (by rfl))) (show w.who=((w.who.toNat:Nat):Int) by omega)) ?_
    refine .c call126 rfl (jm (a:={r with s:=(r.s.want w.mutex.toNat w.who).2 }) (n:=w.who.toNat) (y:=0) (by omega) (by rw[show(r.s.want w.mutex.toNat w.who).2.thr=r.s.thr from yq.1];exact(hS.T _).i) (by show r.late.length≤_;have:(mT a c choice).late.length≤500000:=hl;omega) (by show r.e.aM.length≤_;have:(mT a c choice).e.aM.length≤500000:=hw;omega)) fun _ _=>?_
    refine J 8 ?_
    refine .bf (j+1,ff r w) .auto rfl ?_ ?_ ?_ ?_
    ·show(ft a (a.s.bn.getD c []) choice).length-(j+1)<(ft a (a.s.bn.getD c []) choice).length-j;omega
    ·exact hS.next hwj
    ·exact⟨rfl,trivial⟩
    ·show ∀ w_,Sat _ w_ _→Sat _ w_ (seps [sl cN 2 uO (ft a (a.s.bn.getD c []) choice),cB ba b v (ff r w),F])
     rw[show ff r w=({r with s:=(r.s.want w.mutex.toNat w.who).2 }:RA).free w.who.toNat 0 from by unfold ff;exact if_pos h89]
     exact fun w s=>aK.kept .auto w s
   ·refine .fr (A:=bV b v (r.s.want w.mutex.toNat w.who).2) .auto bx ?_
    refine .draw [] [1,1,1,1,1,1,1,1,1,1,3] rfl (by kernel_rfl) ?_
    refine J 3 ?_
    refine .p (.ix j rfl rfl rfl (by omega)) ?_
    refine J 1 ?_
    refine .p (.dJ (Y.load isAgg3 rfl (Cell.za Rd.s hwj (by rfl))) (show w.who=((w.who.toNat:Nat):Int) by omega)) ?_
    refine J 2 ?_
    refine .p (.aD w.who.toNat underlying54 sizeOf53 rfl rfl rfl (by omega)) ?_
    refine J 1 ?_
    refine .d3 rfl (af.Hr sizeOf3 rfl rfl (by first | omega | exact hn)) ?_
    rintro _ _ ⟨rfl,rfl⟩
    refine J 8 ?_
    refine .bf (j+1,ff r w) .auto rfl ?_ ?_ ?_ ?_
    ·show(ft a (a.s.bn.getD c []) choice).length-(j+1)<(ft a (a.s.bn.getD c []) choice).length-j;omega
    ·exact hS.next hwj
    ·exact⟨rfl,trivial⟩
    ·show ∀ w_,Sat _ w_ _→Sat _ w_ (seps [sl cN 2 uO (ft a (a.s.bn.getD c []) choice),cB ba b v (ff r w),F])
     rw[show ff r w = {r with s:=(r.s.want w.mutex.toNat w.who).2.aj w.who.toNat {(r.s.want w.mutex.toNat w.who).2.t w.who.toNat with why:=1 } } from by unfold ff;exact if_neg (by rw[h89];simp)]
     exact fun w s=>aK.kept .auto w s
  ·refine J 4 ?_
   rw[uF,hS.done (by omega)]
   exact JR 0 ()
end Go.SLYtefdijgllbkmfaaGreat
namespace Go.SLYtefdijgllbkmfaaGreat
open Go Go.RowKit
structure uG(a:RA):Prop where
 n:a.n<16
 T:fT a.s
 l:a.late.length≤400000
 w:a.e.aM.length≤400000
 r:a.s.au.length≤890000000
 I:jb a.i
 nn:a.i.n≤1099511627776
 ml:a.s.aF.length≤1000000
 mw:∀ x∈a.s.aF,x.wait.length≤1000000∧ ∀ w∈x.wait,0≤w∧w<16
 cl:a.s.bn.length≤1000000
 cw:∀ x∈a.s.bn,x.length≤100000∧ ∀ w∈x,(0≤w.who∧w.who<16)∧0≤w.mutex∧w.mutex<(a.s.aF.length:Int)
 sl:a.s.cf.length≤1000000∧a.s.sw.length=a.s.cf.length
 sc:∀ x∈a.s.cf,0≤x∧x≤1048576
 sw:∀ x∈a.s.sw,x.length≤1000000∧ ∀ w∈x,0≤w∧w<16
 pl:a.s.jv.length≤1000000
 pw:∀ u∈a.s.jv,u.words.length≤1000000∧u.bP.length≤1000000∧u.bC.length≤1000000∧(∀ w∈u.words,0≤w∧w≤18446744073709551615)∧(∀ w∈u.bP,0≤w.who∧w.who<16)∧ ∀ w∈u.bC,0≤w∧w<16
 bl:a.s.blk.length≤1000000
 al:a.s.ask.length≤1000000
 nw:0≤a.s.now∧a.s.now≤1099511627776
 o1:a.i.op=25∨a.i.op=26→a.i.n<(a.s.aF.length:Int)
 o2:a.i.op=27→a.i.c<(a.s.aF.length:Int)∧a.i.n<(a.s.bn.length:Int)
 o3:a.i.op=28∨a.i.op=29→a.i.n<(a.s.bn.length:Int)
 o4:a.i.op=30∨a.i.op=31→a.i.n<(a.s.cf.length:Int)
 o5:a.i.op=35∨a.i.op=36→a.i.n<(a.s.jv.length:Int)
 oo:20≤a.i.op∧a.i.op≤38
section
variable{a:RA}{choice:Int}{x:gp}
def RA.w(a:RA)(s:RSp):RA:={a with s:=s }
theorem yu(h:a.i.op=25)(hx:a.s.aF[a.i.n.toNat]?=some x)(ho:x.owner=(a.n:Int)+1):a.gate choice=a.done a.i.n 0 4:=by
 unfold RA.gate;simp only[bI hx];exact(if_pos h).trans (if_pos ho)
theorem yw(h:a.i.op=25)(hx:a.s.aF[a.i.n.toNat]?=some x)(ho:¬x.owner=(a.n:Int)+1)(hw:(a.s.want a.i.n.toNat a.n).1=true):a.gate choice=(a.w (a.s.want a.i.n.toNat a.n).2).done a.i.n 0 0:=by
 unfold RA.gate;simp only[bI hx];exact(if_pos h).trans ((if_neg ho).trans (if_pos hw))
theorem sP(h:a.i.op=25)(hx:a.s.aF[a.i.n.toNat]?=some x)(ho:¬x.owner=(a.n:Int)+1)(hw:(a.s.want a.i.n.toNat a.n).1=false):a.gate choice=(a.w (a.s.want a.i.n.toNat a.n).2).stop 1 0 a.i.n 0:=by
 unfold RA.gate;simp only[bI hx];exact(if_pos h).trans ((if_neg ho).trans (if_neg (by rw[hw];simp)))
theorem yx(h:a.i.op=26)(hx:a.s.aF[a.i.n.toNat]?=some x)(ho:¬x.owner=(a.n:Int)+1):a.gate choice=a.done a.i.n 0 5:=by
 unfold RA.gate;simp only[bI hx];exact(if_neg (by omega)).trans ((if_pos h).trans (if_pos ho))
theorem qb(h:a.i.op=26)(hx:a.s.aF[a.i.n.toNat]?=some x)(ho:¬¬x.owner=(a.n:Int)+1):a.gate choice=((a.w (a.s.open a.i.n.toNat choice).2).done a.i.n 0 0).m0 (a.s.open a.i.n.toNat choice).1:=by
 unfold RA.gate;simp only[bI hx];exact(if_neg (by omega)).trans ((if_pos h).trans (if_neg ho))
theorem uH(h:a.i.op=27)(hx:a.s.aF[a.i.c.toNat]?=some x)(ho:¬x.owner=(a.n:Int)+1):a.gate choice=a.done a.i.n (gU a.i.c) 5:=by
 unfold RA.gate;simp only[bI hx];exact(if_neg (by omega)).trans ((if_neg (by omega)).trans ((if_pos h).trans (if_pos ho)))
def RSp.queue(s:RSp)(m:Nat)(w:dh):RSp:={s with bn:=s.bn.set m (s.bn.getD m []++[w]) }
theorem qc(h:a.i.op=27)(hx:a.s.aF[a.i.c.toNat]?=some x)(ho:¬¬x.owner=(a.n:Int)+1):a.gate choice=((a.w ((a.s.open a.i.c.toNat choice).2.queue a.i.n.toNat ⟨a.n,a.i.c⟩)).stop 2 0 a.i.n (gU a.i.c)).m0 (a.s.open a.i.c.toNat choice).1:=by
 unfold RA.gate;simp only[bI hx];exact(if_neg (by omega)).trans ((if_neg (by omega)).trans ((if_pos h).trans (if_neg ho)))
theorem yy(h1:¬a.i.op=25)(h2:¬a.i.op=26)(h3:¬a.i.op=27):a.gate choice=a.signal a.i.n.toNat choice:=by
 unfold RA.gate;exact(if_neg h1).trans ((if_neg h2).trans (if_neg h3))
theorem ph{s:RSp}{m:Nat}{c:Int}(h:∀ x∈s.aF,x.wait.length≤1000000∧ ∀ w∈x.wait,0≤w∧w<16):0≤(s.open m c).1∧(s.open m c).1≤16∧(s.open m c).2.thr=s.thr∧(s.open m c).2.au=s.au∧(s.open m c).2.bn=s.bn:=by
 unfold RSp.open;simp only
 split
 ·exact⟨Int.le_refl 0,(by decide:(0:Int)≤16),rfl,rfl,rfl⟩
 ·rename_i hl
  have hp:pick c (s.aF.getD m ⟨0,[]⟩).wait.length<(s.aF.getD m ⟨0,[]⟩).wait.length:=fc (by omega)
  have hm:=List.mem_of_getElem? (getD_some (d:=(0:Int)) hp)
  have hx:∀ w∈(s.aF.getD m ⟨0,[]⟩).wait,0≤w∧w<16:=by
   rw[List.getD_eq_getElem?_getD]
   cases e:s.aF[m]? with
   | none=>intro w hw;cases hw
   | some z=>exact(h z (List.mem_of_getElem? e)).2
  have:=hx _ hm
  exact⟨by omega,by omega,rfl,rfl,rfl⟩
end
section
variable{a:RA}{choice:Int}
theorem Bw(h:0<(a.s.sw.getD a.i.n.toNat []).length):a.up choice=((a.w {a.s with sw:=a.s.sw.set a.i.n.toNat ((a.s.sw.getD a.i.n.toNat []).eraseIdx (pick choice (a.s.sw.getD a.i.n.toNat []).length)) }).done a.i.n 0 0).free ((a.s.sw.getD a.i.n.toNat []).getD (pick choice (a.s.sw.getD a.i.n.toNat []).length) 0).toNat 0:=by
 unfold RA.up;exact if_pos h
theorem Bx(h:¬ 0<(a.s.sw.getD a.i.n.toNat []).length)(h2:a.s.cf.getD a.i.n.toNat 0=1048576):a.up choice=a.done a.i.n 0 2:=by
 unfold RA.up;exact(if_neg h).trans (if_pos h2)
theorem IC(h:¬ 0<(a.s.sw.getD a.i.n.toNat []).length)(h2:¬a.s.cf.getD a.i.n.toNat 0=1048576):a.up choice=(a.w {a.s with cf:=a.s.cf.set a.i.n.toNat (a.s.cf.getD a.i.n.toNat 0+1) }).done a.i.n 0 0:=by
 unfold RA.up;exact(if_neg h).trans (if_neg h2)
theorem Bz(h:0<a.s.cf.getD a.i.n.toNat 0):a.down=(a.w {a.s with cf:=a.s.cf.set a.i.n.toNat (a.s.cf.getD a.i.n.toNat 0-1) }).done a.i.n 0 0:=by unfold RA.down;exact if_pos h
theorem uI(h:¬ 0<a.s.cf.getD a.i.n.toNat 0):a.down=(a.w {a.s with sw:=a.s.sw.set a.i.n.toNat (a.s.sw.getD a.i.n.toNat []++[(a.n:Int)]) }).stop 3 0 a.i.n 0:=by unfold RA.down;exact if_neg h
def RSp.oC(s:RSp)(k:Nat)(u:Tub):RSp:={s with jv:=s.jv.set k u }
variable{u:Tub}{x w:Int}{r:List Int}{p:Ptr}{q:List Ptr}
theorem uJ(hu:a.s.jv[a.i.n.toNat]?=some u)(h:u.bC.length=0∧(u.words.length:Int)=u.room):a.putP x=(a.w (a.s.oC a.i.n.toNat {u with bP:=u.bP++[⟨a.n,x⟩] })).stop 7 0 a.i.n x:=by
 unfold RA.putP RA.pipe;simp only[bI hu];exact if_pos h
theorem uK(hu:a.s.jv[a.i.n.toNat]?=some u)(h:¬(u.bC.length=0∧(u.words.length:Int)=u.room))(hg:u.bC=w::r):a.putP x=((a.done a.i.n x 0).w ((a.done a.i.n x 0).s.oC a.i.n.toNat {u with bC:=r })).free w.toNat x:=by
 unfold RA.putP RA.pipe;simp only[bI hu];refine(if_neg h).trans ?_;rw[hg];rfl
theorem yz(hu:a.s.jv[a.i.n.toNat]?=some u)(h:¬(u.bC.length=0∧(u.words.length:Int)=u.room))(hg:u.bC=[]):a.putP x=(a.done a.i.n x 0).w ((a.done a.i.n x 0).s.oC a.i.n.toNat {u with words:=u.words++[x] }):=by
 unfold RA.putP RA.pipe;simp only[bI hu];refine(if_neg h).trans ?_;rw[hg];rfl
theorem uL(hu:a.s.jv[a.i.n.toNat]?=some u)(h:u.words=[]):a.getP=(a.w (a.s.oC a.i.n.toNat {u with bC:=u.bC++[(a.n:Int)] })).stop 6 (a.i.a+1) a.i.n 0:=by
 unfold RA.getP RA.pipe;simp only[bI hu];rw[h];rfl
def RA.yX(a:RA)(u:Tub)(x:Int)(r:List Int):RA:=((a.w (a.s.oC a.i.n.toNat {u with words:=r })).aj (a.t.put a.i.a x)).done a.i.n x 0
theorem BA(hu:a.s.jv[a.i.n.toNat]?=some u)(h:u.words=x::r)(hp:u.bP=[]):a.getP=a.yX u x r:=by
 obtain⟨e1,e2,e3,e4⟩:=u
 simp only at h hp
 subst h hp
 unfold RA.getP RA.pipe;simp only[bI hu];rfl
theorem uM(hu:a.s.jv[a.i.n.toNat]?=some u)(h:u.words=x::r)(hp:u.bP=p::q):a.getP=((a.yX u x r).w ((a.yX u x r).s.oC a.i.n.toNat {u with words:=r++[p.x],bP:=q })).free p.who.toNat 0:=by
 obtain⟨e1,e2,e3,e4⟩:=u
 simp only at h hp
 subst h hp
 unfold RA.getP RA.pipe;simp only[bI hu];rfl
end
theorem yA{α:Type}{x:α}{r:List α}:([]++((x::r).take (x::r).length).drop 1)=r:=by rw[List.take_length];rfl
theorem pj{α:Type}{x:α}{r:List α}:([]:List α).length+(((x::r).take (x::r).length).drop 1).length=r.length:=by rw[List.take_length];simp
theorem mi{b o:Nat}{u:Tub}{v1 v2 v3:Value}:∀ h,seps [arr b o [.int .i64 u.room,v1,v2,v3],sl bF 1 v1 u.words,sl eP 2 v2 u.bP,sl aL 1 v3 u.bC] h→cI dR dS b o u h:=fun h a=>by
 refine⟨(v1,v2,v3),trivial,?_⟩
 rw[gX]
 exact a
section
variable{a:RA}{x y:Int}
theorem JK(h:a.i.op=33):a.kernel x y=a.aO y 0 (a.i.a+1):=by unfold RA.kernel;exact if_pos h
theorem JL(h:a.i.op=34):a.kernel x y=a.aO x y 0:=by unfold RA.kernel;exact(if_neg (by omega)).trans (if_pos h)
theorem Hw(h:a.i.op=35):a.kernel x y=a.putP x:=by unfold RA.kernel;exact(if_neg (by omega)).trans ((if_neg (by omega)).trans (if_pos h))
theorem KZ(h:a.i.op=36):a.kernel x y=a.getP:=by unfold RA.kernel;exact(if_neg (by omega)).trans ((if_neg (by omega)).trans ((if_neg (by omega)).trans (if_pos h)))
theorem Fs(h:a.i.op=37):a.kernel x y=a.sleep x:=by unfold RA.kernel;exact(if_neg (by omega)).trans ((if_neg (by omega)).trans ((if_neg (by omega)).trans ((if_neg (by omega)).trans (if_pos h))))
theorem K0(h1:¬a.i.op=33)(h2:¬a.i.op=34)(h3:¬a.i.op=35)(h4:¬a.i.op=36)(h5:¬a.i.op=37):a.kernel x y=a.done x 0 0:=by unfold RA.kernel;exact(if_neg h1).trans ((if_neg h2).trans ((if_neg h3).trans ((if_neg h4).trans (if_neg h5))))
theorem wN{bk w into:Int}(h:(a.s.blk.length:Int)≤bk):a.aO bk w into=a.done bk w 1:=by unfold RA.aO;exact if_pos h
theorem wO{bk w into:Int}(h:¬(a.s.blk.length:Int)≤bk):a.aO bk w into=(a.w {a.s with ask:=a.s.ask++[⟨a.n,bk,decide (a.i.op=34),w⟩] }).stop 5 into bk w:=by unfold RA.aO;exact if_neg h
theorem BB(h:x=0):a.sleep x=a.done x 0 0:=by unfold RA.sleep;exact if_pos h
theorem uN(h:¬x=0)(h2:1099511627776<x):a.sleep x=a.done x 0 1:=by unfold RA.sleep;exact(if_neg h).trans (if_pos h2)
theorem sQ(h:¬x=0)(h2:¬ 1099511627776<x){t:Int}(ht:min (a.s.now+x) 1099511627776+1=t):a.sleep x=(a.w {a.s with til:=dU a.s.til a.n t }).stop 8 0 x 0:=by unfold RA.sleep;rw[← ht];exact(if_neg h).trans (if_neg h2)
end
theorem uP{s:RSp}{m:Nat}{who:Int}:(s.want m who).2.au=s.au:=by unfold RSp.want;simp only;split <;> rfl
theorem uQ{a:RA}{w:Int}(h:0<w):a.m0 w=a.free (w-1).toNat 0:=by unfold RA.m0;rw[if_pos h]
theorem yB{a:RA}{w:Int}(h:¬ 0<w):a.m0 w=a:=by unfold RA.m0;rw[if_neg h]
theorem w8.put{t:RT}(h:w8 t){a v:Int}(hv:0≤v∧v≤18446744073709551615):w8 (t.put a v):=⟨fun k=>by
  show 0≤dU t.aq a.toNat v k∧dU t.aq a.toNat v k≤_
  unfold dU;split;exact hv;exact h.r k,h.i,h.j,h.p,h.v⟩
theorem fT.done{a:RA}(h:fT a.s){x y e:Int}(he:0≤e∧e≤11):fT (a.done x y e).s:=h.dU (n:=a.n) (t:=a.t.put 7 e) rfl ((h a.n).put ⟨he.1,by omega⟩)
theorem fT.stop{a:RA}(h:fT a.s){why into x y:Int}(hi:0≤into∧into≤8):fT (a.stop why into x y).s:=h.dU (n:=a.n) (t:={a.t with why:=why,op:=a.i.op,into:=into }) rfl ⟨(h a.n).r,hi,(h a.n).j,(h a.n).p,(h a.n).v⟩
end Go.SLYtefdijgllbkmfaaGreat
namespace Go.SLYtefdijgllbkmfaaGreat
open Go Go.RowKit Go.Proofs Go.Proofs.Tryz
attribute [local irreducible] ax aQ bu cj bQ Y
set_option maxHeartbeats 1000000 in
theorem mj{W:World}{ba b:Nat}{v:RV}{a:RA}{choice:Int}(hk:uG a)(hop:25≤a.i.op∧a.i.op≤29):Fn Tryz.prog W 132 [ptr ba,.int .i64 choice] [cB ba b v a] Unit (fun _=>.tuple #[]) (fun _=>True) (fun _=>[cB ba b v (a.gate choice)]):=by
 refine Fn.intro (N:=159) func132 rfl ntmps132 rfl fun F=>?_
 show ax _ _ _ _ _ _ [cB ba b v a,F]
 refine .o2 (C:=cB ba b v (a)) .auto rfl ?_
 rintro vw vl -
 refine .fr (A:=bV b v (a).s) .auto bx ?_
 have hn:=hk.n
 have hnn:=hk.nn
 have hI:=hk.I
 have hIn:=hI.n
 have hIc:=hI.c
 refine J 1 ?_
 refine .draw [arr ba 0 (lh b (a) vw vl)] [0,0,0,0,0,0,0,0,2,1,3] rfl (by kernel_rfl) ?_
 refine J 7 ?_
 refine .q (.la rfl (Cells.jA (ds:=dI a.i) (Cells.a (cs:=lh b a vw vl)) rfl)) ?_
 refine .d2 rfl Kept.auto (af.alloc rfl zeroValue131 rfl) (by rintro _ _ ⟨b5,rfl,rfl⟩;exact Kept.auto) ?_
 rintro _ _ ⟨b5,rfl,rfl⟩
 refine J 1 ?_
 refine .d3 rfl (af.tP (by exact sizeOf131) rfl rfl rfl (by rfl)) ?_
 rintro _ _ ⟨rfl,rfl⟩
 refine J 6 ?_
 refine .p (.dJ (Y.gy underlying38 underlying3 rfl (by omega)) (show a.i.n=((a.i.n.toNat:Nat):Int) by omega)) ?_
 refine JD 16 (fun h26=>?_) fun h26=>?_
 ·refine J 1 ?_
  refine .draw [] [1,1,1,1,1,1,1,1,1,1,1,1,1,1] rfl (by kernel_rfl) ?_
  have hlt:a.i.n.toNat<(a.s).aF.length:=by have h1:=hk.o1 (.inl h26);have h2:=hk.I.n;have h3:=hk.I.c;omega
  obtain⟨x,hx⟩:=ay hlt
  have hxw:=hk.mw x (List.mem_of_getElem? hx)
  refine .o1 (C:=zW b (a.s).aF) .auto rfl ?_
  rintro vM -
  refine .fb (fun w st=>st.fact .auto (eV (Nat.lt_of_le_of_lt (Nat.zero_le _) hlt))) fun hS=>?_
  refine .fr .auto (fR (enc:=ef) (k:=2) (inner:=ej) (fun _=>rfl) hx) ?_
  refine .o1 (C:=cI ef ej (blk vM) (cC vM+a.i.n.toNat * 2) x) .auto rfl ?_
  rintro uw -
  rw[show ej (uw,x)=sl aL 1 uw x.wait from rfl,show ef (uw,x)=[.int .i64 x.owner,uw] from rfl]
  refine J 5 ?_
  refine .p (.tu a.i.n.toNat underlying56 sizeOf287 rfl rfl hS rfl hlt) ?_
  refine JD 10 (fun h41=>?_) fun h41=>?_
  ·refine J 4 ?_
   refine .to (A:=eG ef 2 ej vM (a.s).aF) (Bs:=[cI ef ej (blk vM) (cC vM+a.i.n.toNat * 2) x,gS ef 2 ej vM (a.s).aF a.i.n.toNat]) .auto (gq hx) ?_
   refine .c call129 rfl (cx (a:=a) (x:=a.i.n) (y:=0) (e:=4) hk.n (by have:=hk.r;omega) (by decide)) fun _ _=>?_
   refine J 2 ?_
   rw[yu h26 hx h41]
   exact JR 0 ()
  ·refine J 8 ?_
   refine .to (A:=eG ef 2 ej vM (a.s).aF) (Bs:=[cI ef ej (blk vM) (cC vM+a.i.n.toNat * 2) x,gS ef 2 ej vM (a.s).aF a.i.n.toNat]) .auto (gq hx) ?_
   refine .c call185 rfl (yr (s:=a.s) (m:=a.i.n.toNat) (who:=(a.n:Int)) hx hk.ml (by omega) (by have:=hk.n;omega)) fun _ _=>?_
   refine JD 2 (fun h52=>?_) fun h52=>?_
   ·refine J 4 ?_
    refine .c call129 rfl (cx (a:=(a.w (a.s.want a.i.n.toNat a.n).2)) (x:=a.i.n) (y:=0) (e:=0) hk.n (by rw[show(a.w (a.s.want a.i.n.toNat a.n).2).s.au=a.s.au from uP];have:=hk.r;omega) (by decide)) fun _ _=>?_
    refine J 2 ?_
    rw[yw h26 hx h41 h52]
    exact JR 0 ()
   ·refine J 4 ?_
    refine .c call133 rfl (gr (a:=(a.w (a.s.want a.i.n.toNat a.n).2)) (why:=1) (into:=0) (x:=a.i.n) (y:=0) hk.n (by rw[show(a.w (a.s.want a.i.n.toNat a.n).2).s.au=a.s.au from uP];have:=hk.r;omega)) fun _ _=>?_
    refine J 2 ?_
    rw[sP h26 hx h41 h52]
    exact JR 0 ()
 ·refine JD 6 (fun h61=>?_) fun h61=>?_
  ·refine J 2 ?_
   refine .draw [] [1,1,1,1,1,1,1,1,1,1,1,1,1,1] rfl (by kernel_rfl) ?_
   have hlt:a.i.n.toNat<(a.s).aF.length:=by have h1:=hk.o1 (.inr h61);have h2:=hk.I.n;have h3:=hk.I.c;omega
   obtain⟨x,hx⟩:=ay hlt
   have hxw:=hk.mw x (List.mem_of_getElem? hx)
   refine .o1 (C:=zW b (a.s).aF) .auto rfl ?_
   rintro vM -
   refine .fb (fun w st=>st.fact .auto (eV (Nat.lt_of_le_of_lt (Nat.zero_le _) hlt))) fun hS=>?_
   refine .fr .auto (fR (enc:=ef) (k:=2) (inner:=ej) (fun _=>rfl) hx) ?_
   refine .o1 (C:=cI ef ej (blk vM) (cC vM+a.i.n.toNat * 2) x) .auto rfl ?_
   rintro uw -
   rw[show ej (uw,x)=sl aL 1 uw x.wait from rfl,show ef (uw,x)=[.int .i64 x.owner,uw] from rfl]
   refine J 5 ?_
   refine .p (.tu a.i.n.toNat underlying56 sizeOf287 rfl rfl hS rfl hlt) ?_
   refine JD 10 (fun h76=>?_) fun h76=>?_
   ·refine J 5 ?_
    refine .to (A:=eG ef 2 ej vM (a.s).aF) (Bs:=[cI ef ej (blk vM) (cC vM+a.i.n.toNat * 2) x,gS ef 2 ej vM (a.s).aF a.i.n.toNat]) .auto (gq hx) ?_
    refine .c call129 rfl (cx (a:=a) (x:=a.i.n) (y:=0) (e:=5) hk.n (by have:=hk.r;omega) (by decide)) fun _ _=>?_
    refine J 5 ?_
    rw[yx h61 hx h76]
    exact JR 0 ()
   ·refine J 7 ?_
    refine .to (A:=eG ef 2 ej vM (a.s).aF) (Bs:=[cI ef ej (blk vM) (cC vM+a.i.n.toNat * 2) x,gS ef 2 ej vM (a.s).aF a.i.n.toNat]) .auto (gq hx) ?_
    refine .c call186 rfl (yt (s:=a.s) (m:=a.i.n.toNat) (choice:=choice) hx hk.ml (by omega) hxw.2) fun _ _=>?_
    refine J 8 ?_
    refine .c call129 rfl (cx (a:=(a.w (a.s.open a.i.n.toNat choice).2)) (x:=a.i.n) (y:=0) (e:=0) hk.n (by rw[show(a.w (a.s.open a.i.n.toNat choice).2).s.au=a.s.au from(ph hk.mw).2.2.2.1];have:=hk.r;omega) (by decide)) fun _ _=>?_
    refine J 8 ?_
    have horg:=ph (c:=choice) (m:=a.i.n.toNat) hk.mw
    have hTq:fT ((a.w (a.s.open a.i.n.toNat choice).2).done a.i.n 0 0).s:=fT.done (fun m=>by rw[show(a.w (a.s.open a.i.n.toNat choice).2).s.thr=a.s.thr from horg.2.2.1];exact hk.T m) (by decide)
    refine JD 0 (fun h90=>?_) fun h90=>?_
    ·refine J 3 ?_
     refine .p (.dJ (Y.sub rfl rfl (by have:=horg;omega)) (show(a.s.open a.i.n.toNat choice).1-1=((((a.s.open a.i.n.toNat choice).1-1).toNat:Nat):Int) by have:=horg;omega)) ?_
     refine .c call126 rfl (jm (a:=((a.w (a.s.open a.i.n.toNat choice).2).done a.i.n 0 0)) (n:=((a.s.open a.i.n.toNat choice).1-1).toNat) (y:=0) (by have:=horg;omega) (hTq _).i (by show a.late.length≤_;have:=hk.l;omega) (by show a.e.aM.length≤_;have:=hk.w;omega)) fun _ _=>?_
     refine J 2 ?_
     rw[qb h61 hx h76,uQ h90]
     exact JR 0 ()
    ·refine J 2 ?_
     rw[qb h61 hx h76,yB h90]
     exact JR 0 ()
  ·refine JD 6 (fun h95=>?_) fun h95=>?_
   ·refine J 2 ?_
    refine .draw [] [1,1,1,1,1,1,1,1,1,1,1,1,1,1,1] rfl (by kernel_rfl) ?_
    have hlt:a.i.c.toNat<(a.s).aF.length:=by have h1:=(hk.o2 h95).1;have h2:=hk.I.n;have h3:=hk.I.c;omega
    obtain⟨x,hx⟩:=ay hlt
    have hxw:=hk.mw x (List.mem_of_getElem? hx)
    refine .o1 (C:=zW b (a.s).aF) .auto rfl ?_
    rintro vM -
    refine .fb (fun w st=>st.fact .auto (eV (Nat.lt_of_le_of_lt (Nat.zero_le _) hlt))) fun hS=>?_
    refine .fr .auto (fR (enc:=ef) (k:=2) (inner:=ej) (fun _=>rfl) hx) ?_
    refine .o1 (C:=cI ef ej (blk vM) (cC vM+a.i.c.toNat * 2) x) .auto rfl ?_
    rintro uw -
    rw[show ej (uw,x)=sl aL 1 uw x.wait from rfl,show ef (uw,x)=[.int .i64 x.owner,uw] from rfl]
    refine J 5 ?_
    refine .p (.dJ (Y.load isAgg3 rfl (Cell.a (cs:=dI a.i) rfl)) (show a.i.c=((a.i.c.toNat:Nat):Int) by omega)) ?_
    refine .p (.tu a.i.c.toNat underlying56 sizeOf287 rfl rfl hS rfl hlt) ?_
    refine JD 10 (fun h111=>?_) fun h111=>?_
    ·refine J 7 ?_
     refine .p (.dJ (Y.gh underlying3 underlying38 rfl (by omega)) (show a.i.c=gU a.i.c by unfold gU;omega)) ?_
     refine .to (A:=eG ef 2 ej vM (a.s).aF) (Bs:=[cI ef ej (blk vM) (cC vM+a.i.c.toNat * 2) x,gS ef 2 ej vM (a.s).aF a.i.c.toNat]) .auto (gq hx) ?_
     refine .c call129 rfl (cx (a:=a) (x:=a.i.n) (y:=(gU a.i.c)) (e:=5) hk.n (by have:=hk.r;omega) (by decide)) fun _ _=>?_
     refine J 5 ?_
     rw[uH h95 hx h111]
     exact JR 0 ()
    ·refine J 6 ?_
     refine .p (.dJ (Y.load isAgg3 rfl (Cell.a (cs:=dI a.i) rfl)) (show a.i.c=((a.i.c.toNat:Nat):Int) by omega)) ?_
     refine J 1 ?_
     refine .to (A:=eG ef 2 ej vM (a.s).aF) (Bs:=[cI ef ej (blk vM) (cC vM+a.i.c.toNat * 2) x,gS ef 2 ej vM (a.s).aF a.i.c.toNat]) .auto (gq hx) ?_
     refine .c call186 rfl (yt (s:=a.s) (m:=a.i.c.toNat) (choice:=choice) hx hk.ml (by omega) hxw.2) fun _ _=>?_
     have horg:=ph (c:=choice) (m:=a.i.c.toNat) hk.mw
     have hltc:a.i.n.toNat<(a.s.open a.i.c.toNat choice).2.bn.length:=by rw[horg.2.2.2.2];have:=(hk.o2 h95).2;omega
     have hgc:(a.s.open a.i.c.toNat choice).2.bn[a.i.n.toNat]?=some ((a.s.open a.i.c.toNat choice).2.bn.getD a.i.n.toNat []):=getD_some hltc
     have hcw:=hk.cw ((a.s.open a.i.c.toNat choice).2.bn.getD a.i.n.toNat []) (by have h:=List.mem_of_getElem? hgc;rw[horg.2.2.2.2] at h ⊢;exact h)
     refine .fr (A:=bV b v (a.s.open a.i.c.toNat choice).2) .auto bx ?_
     refine .o1 (C:=Ht b (a.s.open a.i.c.toNat choice).2.bn) .auto rfl ?_
     rintro vC -
     refine .fb (fun w st=>st.fact .auto (eV (Nat.lt_of_le_of_lt (Nat.zero_le _) hltc))) fun hSC=>?_
     refine .fr .auto (fR (enc:=cn) (k:=1) (inner:=lH) (fun _=>rfl) hgc) ?_
     refine .o1 (C:=cI cn lH (blk vC) (cC vC+a.i.n.toNat * 1) ((a.s.open a.i.c.toNat choice).2.bn.getD a.i.n.toNat [])) .auto rfl ?_
     rintro uC -
     rw[show lH (uC,(a.s.open a.i.c.toNat choice).2.bn.getD a.i.n.toNat [])=sl cN 2 uC ((a.s.open a.i.c.toNat choice).2.bn.getD a.i.n.toNat []) from rfl,show cn (uC,(a.s.open a.i.c.toNat choice).2.bn.getD a.i.n.toNat [])=[uC] from rfl]
     refine J 4 ?_
     refine .draw [arr b 314 [vC],arr (blk vC) (cC vC+a.i.n.toNat * 1) [uC],arr ba 0 (lh b (a) vw vl),arr b5 0 (dI a.i)] [0,0,0,0,0,0,0,0,0,0,0,0,1,1,1,1,1,1,1,2,2,1,3] rfl (by kernel_rfl) ?_
     refine J 10 ?_
     refine .q (.tu a.i.n.toNat underlying57 sizeOf288 rfl rfl hSC rfl hltc) ?_
     refine J 7 ?_
     refine .p (.gH (fun v1 v2=>[v1,v2]) rfl rfl (by kernel_rfl)) ?_
     refine .d2 rfl Kept.auto (af.gQ 290 rfl rfl (by kernel_rfl)) (by rintro _ _ ⟨b143,rfl,rfl⟩;exact Kept.auto) ?_
     rintro _ _ ⟨b143,rfl,rfl⟩
     refine .d2 rfl Kept.auto (af.fi (enc:=cN) (k:=2) (⟨a.n,a.i.c⟩:dh) rfl underlying288 underlying288 typeInfo290 rfl rfl rfl (by decide) rfl rfl rfl .auto rfl .auto (by have:=hcw.1;omega) rfl) (by rintro _ _ ⟨v144,rfl,rfl⟩;exact Kept.auto) ?_
     rintro _ _ ⟨v144,rfl,rfl⟩
     refine .p (.tu a.i.n.toNat underlying57 sizeOf288 rfl rfl hSC rfl hltc) ?_
     refine .d3 rfl (af.nf sizeOf288 rfl rfl rfl) ?_
     rintro _ _ ⟨rfl,rfl⟩
     refine J 9 ?_
     refine .p (.dJ (Y.gh underlying3 underlying38 rfl (by omega)) (show a.i.c=gU a.i.c by unfold gU;omega)) ?_
     refine .to (A:=eG cn 1 lH vC ((a.s.open a.i.c.toNat choice).2.bn.set a.i.n.toNat ((a.s.open a.i.c.toNat choice).2.bn.getD a.i.n.toNat []++[⟨a.n,a.i.c⟩]))) (Bs:=[cI cn lH (blk vC) (cC vC+a.i.n.toNat * 1) ((a.s.open a.i.c.toNat choice).2.bn.getD a.i.n.toNat []++[⟨a.n,a.i.c⟩]),gS cn 1 lH vC (a.s.open a.i.c.toNat choice).2.bn a.i.n.toNat]) .auto (gg ((a.s.open a.i.c.toNat choice).2.bn.getD a.i.n.toNat []++[⟨a.n,a.i.c⟩])) ?_
     refine .c call133 rfl (gr (a:=(a.w ((a.s.open a.i.c.toNat choice).2.queue a.i.n.toNat ⟨a.n,a.i.c⟩))) (why:=2) (into:=0) (x:=a.i.n) (y:=(gU a.i.c)) hk.n (by rw[show(a.w ((a.s.open a.i.c.toNat choice).2.queue a.i.n.toNat ⟨a.n,a.i.c⟩)).s.au=a.s.au from(ph hk.mw).2.2.2.1];have:=hk.r;omega)) fun _ _=>?_
     refine J 8 ?_
     have hTq:fT ((a.w ((a.s.open a.i.c.toNat choice).2.queue a.i.n.toNat ⟨a.n,a.i.c⟩)).stop 2 0 a.i.n (gU a.i.c)).s:=fT.stop (fun m=>by rw[show(a.w ((a.s.open a.i.c.toNat choice).2.queue a.i.n.toNat ⟨a.n,a.i.c⟩)).s.thr=a.s.thr from horg.2.2.1];exact hk.T m) (by decide)
     refine JD 0 (fun h154=>?_) fun h154=>?_
     ·refine J 3 ?_
      refine .p (.dJ (Y.sub rfl rfl (by have:=horg;omega)) (show(a.s.open a.i.c.toNat choice).1-1=((((a.s.open a.i.c.toNat choice).1-1).toNat:Nat):Int) by have:=horg;omega)) ?_
      refine .c call126 rfl (jm (a:=((a.w ((a.s.open a.i.c.toNat choice).2.queue a.i.n.toNat ⟨a.n,a.i.c⟩)).stop 2 0 a.i.n (gU a.i.c))) (n:=((a.s.open a.i.c.toNat choice).1-1).toNat) (y:=0) (by have:=horg;omega) (hTq _).i (by show a.late.length≤_;have:=hk.l;omega) (by show a.e.aM.length≤_;have:=hk.w;omega)) fun _ _=>?_
      refine J 2 ?_
      rw[qc h95 hx h111,uQ h154]
      exact JR 0 ()
     ·refine J 2 ?_
      rw[qc h95 hx h111,yB h154]
      exact JR 0 ()
   ·refine J 4 ?_
    refine .c call187 rfl (zX (a:=a) (c:=a.i.n.toNat) (choice:=choice) hk.n hk.T (by have:=hk.l;omega) (by have:=hk.w;omega) (by have:=hk.r;omega) (by have:=hk.o3 (by omega);omega) hk.cl (by exact(hk.cw _ (List.mem_of_getElem? (getD_some (d:=([]:List dh)) (show a.i.n.toNat<a.s.bn.length by have:=hk.o3 (by omega);omega)))).1) hk.ml (fun x hx=>(hk.mw x hx).1) (by exact(hk.cw _ (List.mem_of_getElem? (getD_some (d:=([]:List dh)) (show a.i.n.toNat<a.s.bn.length by have:=hk.o3 (by omega);omega)))).2)) fun _ _=>?_
    refine J 2 ?_
    rw[yy h26 h61 h95]
    exact JR 0 ()
theorem JM{W:World}{ba b:Nat}{v:RV}{a:RA}{choice:Int}(hk:uG a)(hop:a.i.op=31):Fn Tryz.prog W 134 [ptr ba,.int .i64 choice] [cB ba b v a] Unit (fun _=>.tuple #[]) (fun _=>True) (fun _=>[cB ba b v (a.up choice)]):=by
 refine Fn.intro (N:=74) func134 rfl ntmps134 rfl fun F=>?_
 show ax _ _ _ _ _ _ [cB ba b v a,F]
 refine .o2 (C:=cB ba b v (a)) .auto rfl ?_
 rintro vw vl -
 refine .fr (A:=bV b v (a).s) .auto bx ?_
 have hn:=hk.n
 have hnn:=hk.nn
 have hI:=hk.I
 have hIn:=hI.n
 have hlt:a.i.n.toNat<a.s.sw.length:=by have:=hk.o4 (by omega);have:=hk.sl.2;omega
 have hsw:a.s.sw[a.i.n.toNat]?=some (a.s.sw.getD a.i.n.toNat []):=getD_some hlt
 have hsr:=hk.sw _ (List.mem_of_getElem? hsw)
 have hls:a.i.n.toNat<a.s.cf.length:=by have:=hk.o4 (by omega);omega
 have hse:a.s.cf[a.i.n.toNat]?=some (a.s.cf.getD a.i.n.toNat 0):=getD_some hls
 have hsv:=hk.sc _ (List.mem_of_getElem? hse)
 refine .o1 (C:=Lo b a.s.sw) .auto rfl ?_
 rintro vS -
 refine .fb (fun w st=>st.fact .auto (eV (Nat.lt_of_le_of_lt (Nat.zero_le _) hlt))) fun hS=>?_
 refine .fr .auto (fR (enc:=cn) (k:=1) (inner:=jV) (fun _=>rfl) hsw) ?_
 refine .o1 (C:=cI cn jV (blk vS) (cC vS+a.i.n.toNat * 1) (a.s.sw.getD a.i.n.toNat [])) .auto rfl ?_
 rintro uS -
 rw[show jV (uS,(a.s.sw.getD a.i.n.toNat []))=sl aL 1 uS (a.s.sw.getD a.i.n.toNat []) from rfl,show cn (uS,(a.s.sw.getD a.i.n.toNat []))=[uS] from rfl]
 refine .o1 (C:=iL aL 1 b 315 a.s.cf) .auto rfl ?_
 rintro vs -
 refine J 1 ?_
 refine .draw [] [1,1,1,1,1,1,1,1,1,1,1] rfl (by kernel_rfl) ?_
 refine J 20 ?_
 refine .p (.tu a.i.n.toNat underlying58 sizeOf23 rfl rfl hS (show a.i.n=((a.i.n.toNat:Nat):Int) by omega) hlt) ?_
 refine JD 12 (fun h27=>?_) fun h27=>?_
 ·have h27:0<(a.s.sw.getD a.i.n.toNat []).length:=by omega
  refine J 2 ?_
  have hpk:(pick choice (a.s.sw.getD a.i.n.toNat []).length)<(a.s.sw.getD a.i.n.toNat []).length:=fc (by omega)
  have hww:=hsr.2 _ (List.mem_of_getElem? (getD_some (d:=(0:Int)) hpk))
  refine J 3 ?_
  refine .c call94 rfl (o0 (c:=choice) (n:=(a.s.sw.getD a.i.n.toNat []).length) (by omega) (by omega)) fun _ _=>?_
  refine J 7 ?_
  refine .p (.ig (pick choice (a.s.sw.getD a.i.n.toNat []).length) underlying23 sizeOf3 rfl rfl Rd.s rfl hpk) ?_
  refine .p (.dJ (Y.load isAgg3 rfl (Cell.za Rd.s (getD_some (d:=(0:Int)) hpk) (by rfl))) (show((a.s.sw.getD a.i.n.toNat []).getD (pick choice (a.s.sw.getD a.i.n.toNat []).length) 0)=((((a.s.sw.getD a.i.n.toNat []).getD (pick choice (a.s.sw.getD a.i.n.toNat []).length) 0).toNat:Nat):Int) by omega)) ?_
  refine J 4 ?_
  refine .draw [arr b 316 [vS]] [0,0,0,0,0,1,1,2,1,3] rfl (by kernel_rfl) ?_
  refine J 7 ?_
  refine .c2 call188 rfl (mh (A:=sl aL 1 uS (a.s.sw.getD a.i.n.toNat [])) (n:=(pick choice (a.s.sw.getD a.i.n.toNat []).length)) (Rd.sl .here) hpk (by omega)) fun u43 _=>?_
  refine .p (.tu a.i.n.toNat underlying58 sizeOf23 rfl rfl hS (show a.i.n=((a.i.n.toNat:Nat):Int) by omega) hlt) ?_
  refine .d3 rfl (af.nf sizeOf23 rfl rfl rfl) ?_
  rintro _ _ ⟨rfl,rfl⟩
  refine J 6 ?_
  refine .to (A:=eG cn 1 jV vS (a.s.sw.set a.i.n.toNat ((a.s.sw.getD a.i.n.toNat []).eraseIdx (pick choice (a.s.sw.getD a.i.n.toNat []).length)))) (Bs:=[cI cn jV (blk vS) (cC vS+a.i.n.toNat * 1) ((a.s.sw.getD a.i.n.toNat []).eraseIdx (pick choice (a.s.sw.getD a.i.n.toNat []).length)),gS cn 1 jV vS a.s.sw a.i.n.toNat]) .auto (gg ((a.s.sw.getD a.i.n.toNat []).eraseIdx (pick choice (a.s.sw.getD a.i.n.toNat []).length))) ?_
  refine .c call129 rfl (cx (a:=(a.w {a.s with sw:=a.s.sw.set a.i.n.toNat ((a.s.sw.getD a.i.n.toNat []).eraseIdx (pick choice (a.s.sw.getD a.i.n.toNat []).length)) })) (x:=a.i.n) (y:=0) (e:=0) hk.n (by show a.s.au.length≤_;have:=hk.r;omega) (by decide)) fun _ _=>?_
  refine J 6 ?_
  refine .c call126 rfl (jm (a:=((a.w {a.s with sw:=a.s.sw.set a.i.n.toNat ((a.s.sw.getD a.i.n.toNat []).eraseIdx (pick choice (a.s.sw.getD a.i.n.toNat []).length)) }).done a.i.n 0 0)) (n:=((a.s.sw.getD a.i.n.toNat []).getD (pick choice (a.s.sw.getD a.i.n.toNat []).length) 0).toNat) (y:=0) (by omega) (fT.done (a:=(a.w {a.s with sw:=a.s.sw.set a.i.n.toNat ((a.s.sw.getD a.i.n.toNat []).eraseIdx (pick choice (a.s.sw.getD a.i.n.toNat []).length)) })) hk.T (by decide) _).i (by show a.late.length≤_;have:=hk.l;omega) (by show a.e.aM.length≤_;have:=hk.w;omega)) fun _ _=>?_
  refine J 4 ?_
  rw[Bw h27]
  exact JR 0 ()
 ·have h27:¬ 0<(a.s.sw.getD a.i.n.toNat []).length:=by omega
  refine J 10 ?_
  refine .p (.ig a.i.n.toNat underlying23 sizeOf3 rfl rfl Rd.s (show a.i.n=((a.i.n.toNat:Nat):Int) by omega) hls) ?_
  refine .p (.lr rfl hse) ?_
  refine JD 3 (fun h58=>?_) fun h58=>?_
  ·refine J 4 ?_
   refine .to (A:=eG cn 1 jV vS a.s.sw) (Bs:=[cI cn jV (blk vS) (cC vS+a.i.n.toNat * 1) (a.s.sw.getD a.i.n.toNat []),gS cn 1 jV vS a.s.sw a.i.n.toNat]) .auto (gq hsw) ?_
   refine .c call129 rfl (cx (a:=a) (x:=a.i.n) (y:=0) (e:=2) hk.n (by show a.s.au.length≤_;have:=hk.r;omega) (by decide)) fun _ _=>?_
   refine J 4 ?_
   rw[Bx h27 h58]
   exact JR 0 ()
  ·refine J 9 ?_
   refine .p (.ig a.i.n.toNat underlying23 sizeOf3 rfl rfl Rd.s (show a.i.n=((a.i.n.toNat:Nat):Int) by omega) hls) ?_
   refine .p (.lr rfl hse) ?_
   refine .p (.add rfl rfl (by omega)) ?_
   refine .p (.ig a.i.n.toNat underlying23 sizeOf3 rfl rfl Rd.s (show a.i.n=((a.i.n.toNat:Nat):Int) by omega) hls) ?_
   refine .aw rfl (af.gL (x':=(a.s.cf.getD a.i.n.toNat 0)+1) rfl rfl sizeOf3 rfl hse (by decide) rfl .auto) ?_
   rintro _ _ ⟨rfl,rfl⟩
   refine J 5 ?_
   refine .to (A:=eG cn 1 jV vS a.s.sw) (Bs:=[cI cn jV (blk vS) (cC vS+a.i.n.toNat * 1) (a.s.sw.getD a.i.n.toNat []),gS cn 1 jV vS a.s.sw a.i.n.toNat]) .auto (gq hsw) ?_
   refine .c call129 rfl (cx (a:=(a.w {a.s with cf:=a.s.cf.set a.i.n.toNat ((a.s.cf.getD a.i.n.toNat 0)+1) })) (x:=a.i.n) (y:=0) (e:=0) hk.n (by show a.s.au.length≤_;have:=hk.r;omega) (by decide)) fun _ _=>?_
   refine J 1 ?_
   rw[IC h27 h58]
   exact JR 0 ()
set_option maxHeartbeats 1000000 in
theorem Hy{W:World}{ba b:Nat}{v:RV}{a:RA}{u:Tub}(hk:uG a)(hu:a.s.jv[a.i.n.toNat]?=some u):Fn Tryz.prog W 189 [ptr ba,.pointer (some ⟨blk v.u,cC v.u+a.i.n.toNat * 4,none⟩)] [cB ba b v a] Unit (fun _=>.tuple #[]) (fun _=>True) (fun _=>[cB ba b v (a.getP)]):=by
 refine Fn.intro (N:=118) func189 rfl ntmps189 rfl fun F=>?_
 show ax _ _ _ _ _ _ [cB ba b v a,F]
 refine .o2 (C:=cB ba b v (a)) .auto rfl ?_
 rintro vw vl -
 refine .fr (A:=bV b v (a).s) .auto bx ?_
 have hn:=hk.n
 have hI:=hk.I
 have hIn:=hI.n
 have hIa:=hI.a
 have hpw:=hk.pw u (List.mem_of_getElem? hu)
 refine .fr .auto (fR (enc:=dR) (k:=4) (inner:=dS) (fun _=>rfl) hu) ?_
 refine .o1 (C:=cI dR dS (blk v.u) (cC v.u+a.i.n.toNat * 4) u) .auto rfl ?_
 rintro⟨v1,v2,v3⟩ -
 rw[show dS ((v1,v2,v3),u)=seps [sl bF 1 v1 (u).words,sl eP 2 v2 (u).bP,sl aL 1 v3 (u).bC] from rfl,show dR ((v1,v2,v3),u)=[.int .i64 (u).room,v1,v2,v3] from rfl]
 refine .fY .auto ?_
 refine JD 11 (fun h11=>?_) fun h11=>?_
 ·have hwd:u.words=[]:=List.eq_nil_of_length_eq_zero (by omega)
  refine J 1 ?_
  refine .draw [arr ba 0 (lh b (a) vw vl),arr (blk v.u) (cC v.u+a.i.n.toNat * 4) [.int .i64 (u).room,v1,v2,v3]] [0,0,0,0,0,1,1,1,1,2,2,1,1,3] rfl (by kernel_rfl) ?_
  refine J 9 ?_
  refine .d2 rfl Kept.auto (af.gQ 3 rfl rfl (by kernel_rfl)) (by rintro _ _ ⟨b21,rfl,rfl⟩;exact Kept.auto) ?_
  rintro _ _ ⟨b21,rfl,rfl⟩
  refine .d2 rfl Kept.auto (af.fi (enc:=aL) (k:=1) (a.n:Int) rfl underlying23 underlying23 typeInfo3 rfl rfl rfl (by decide) rfl rfl rfl .auto rfl .auto (by have:=hpw.2.2.1;omega) rfl) (by rintro _ _ ⟨v22,rfl,rfl⟩;exact Kept.auto) ?_
  rintro _ _ ⟨v22,rfl,rfl⟩
  refine J 2 ?_
  refine .d3 rfl (af.vH sizeOf23 rfl rfl rfl) ?_
  rintro _ _ ⟨rfl,rfl⟩
  refine J 3 ?_
  refine .to (A:=cI dR dS (blk v.u) (cC v.u+a.i.n.toNat * 4) ({u with bC:=u.bC++[(a.n:Int)] })) (Bs:=[arr (blk v.u) (cC v.u+a.i.n.toNat * 4) [.int .i64 ({u with bC:=u.bC++[(a.n:Int)] }).room,v1,v2,v22],sl bF 1 v1 ({u with bC:=u.bC++[(a.n:Int)] }).words,sl eP 2 v2 ({u with bC:=u.bC++[(a.n:Int)] }).bP,sl aL 1 v22 ({u with bC:=u.bC++[(a.n:Int)] }).bC]) .auto mi ?_
  refine .to (A:=eG dR 4 dS v.u (a.s.jv.set a.i.n.toNat ({u with bC:=u.bC++[(a.n:Int)] }))) (Bs:=[cI dR dS (blk v.u) (cC v.u+a.i.n.toNat * 4) ({u with bC:=u.bC++[(a.n:Int)] }),gS dR 4 dS v.u a.s.jv a.i.n.toNat]) .auto (gg ({u with bC:=u.bC++[(a.n:Int)] })) ?_
  refine .draw [] [1,1,1,1,1,1,1,1,1,1,1,1,3] rfl (by kernel_rfl) ?_
  refine J 6 ?_
  refine .p (.add rfl rfl (by omega)) ?_
  refine J 5 ?_
  refine .c call133 rfl (gr (a:=(a.w (a.s.oC a.i.n.toNat {u with bC:=u.bC++[(a.n:Int)] }))) (why:=6) (into:=a.i.a+1) (x:=a.i.n) (y:=0) hk.n (by show a.s.au.length≤_;have:=hk.r;omega)) fun _ _=>?_
  refine J 4 ?_
  rw[uL hu hwd]
  exact JR 0 ()
 ·refine J 4 ?_
  obtain⟨x,r,hwd⟩:∃ x r,u.words=x::r:=by
   cases h:u.words with
   | nil=>rw[h] at h11;exact absurd rfl h11
   | cons x r=>exact⟨x,r,rfl⟩
  have hwl:=hpw.1
  have hwx:=hpw.2.2.2.1
  rw[hwd] at hwl hwx
  have hx64:=hwx x (List.mem_cons_self ..)
  rw[List.length_cons] at hwl
  rw[hwd]
  have hr0:Rd W [sl bF 1 v1 (x::r)] bF 1 v1 (x::r):=Rd.sl .here
  have hr1:=hr0.cut (lo:=1) (hi:=(x::r).length) (by simp) (Nat.le_refl _)
  haveI hI1:∀ (H:List aa) [bX H (sl bF 1 v1 (x::r))],aI W H (cut 1 1 (x::r).length v1) bF 1 (((x::r).take (x::r).length).drop 1):=fun H h=>⟨hr1.at h.has⟩
  refine J 4 ?_
  refine .p (.ix 0 rfl rfl rfl (by simp)) ?_
  refine .p (.ld rfl (Cell.za Rd.s (show(x::r)[0]?=some x from rfl) (by rfl))) ?_
  refine J 6 ?_
  refine .aw rfl (af.gQ 38 rfl rfl (by kernel_rfl)) ?_
  rintro _ _ ⟨b45,rfl,rfl⟩
  refine .to (A:=sl bF 1 (.slice (some ⟨b45,0,none⟩) 0 0) ([]:List Int)) (Bs:=[]) .nil (fun h e=>.inl ⟨⟨_,rfl⟩,rfl,e⟩) ?_
  refine J 4 ?_
  refine .p (.sliceFrom 1 underlying55 sizeOf38 rfl rfl Rd.s rfl (by simp)) ?_
  refine .aw rfl (af.append rfl underlying55 underlying55 typeInfo38 rfl rfl rfl (by decide) rfl rfl .auto Rd.s (by rw[pj];omega) (nV _)) ?_
  rintro _ _ ⟨v51,rfl,rfl⟩
  refine J 2 ?_
  refine .aw rfl (af.vH sizeOf55 rfl rfl rfl) ?_
  rintro _ _ ⟨rfl,rfl⟩
  refine J 3 ?_
  rw[yA]
  refine .to (A:=cI dR dS (blk v.u) (cC v.u+a.i.n.toNat * 4) ({u with words:=r })) (Bs:=[arr (blk v.u) (cC v.u+a.i.n.toNat * 4) [.int .i64 ({u with words:=r }).room,v51,v2,v3],sl bF 1 v51 ({u with words:=r }).words,sl eP 2 v2 ({u with words:=r }).bP,sl aL 1 v3 ({u with words:=r }).bC]) .auto mi ?_
  refine .to (A:=eG dR 4 dS v.u (a.s.jv.set a.i.n.toNat ({u with words:=r }))) (Bs:=[cI dR dS (blk v.u) (cC v.u+a.i.n.toNat * 4) ({u with words:=r }),gS dR 4 dS v.u a.s.jv a.i.n.toNat]) .auto (gg ({u with words:=r })) ?_
  refine .draw [] [1,1,1,1,1,1,1,1,1,1,1,1,1,1,1,1,1,1,1,3] rfl (by kernel_rfl) ?_
  refine J 16 ?_
  refine .p (.aD _ underlying54 sizeOf53 rfl rfl rfl (by first | omega | exact hn | decide)) ?_
  refine J 1 ?_
  refine .p (.aD a.i.a.toNat underlying39 sizeOf38 rfl rfl (by omega) (by omega)) ?_
  refine .d3 rfl (af.qR sizeOf38 rfl rfl (by first | omega | exact hn) (by first | omega | decide)) ?_
  rintro _ _ ⟨rfl,rfl⟩
  refine J 11 ?_
  refine .c call129 rfl (cx (a:=((a.w (a.s.oC a.i.n.toNat {u with words:=r })).aj (a.t.put a.i.a x))) (x:=a.i.n) (y:=x) (e:=0) hk.n (by show a.s.au.length≤_;have:=hk.r;omega) (by decide)) fun _ _=>?_
  refine J 4 ?_
  have hu2:(a.yX u x r).s.jv[a.i.n.toNat]?=some ({u with words:=r }:Tub):=List.getElem?_set_self (List.getElem?_eq_some_iff.1 hu).1
  refine .o2 (C:=cB ba b v ((a.yX u x r))) .auto rfl ?_
  rintro vw vl -
  refine .fr (A:=bV b v ((a.yX u x r)).s) .auto bx ?_
  refine .fr .auto (fR (enc:=dR) (k:=4) (inner:=dS) (fun _=>rfl) hu2) ?_
  refine .o1 (C:=cI dR dS (blk v.u) (cC v.u+a.i.n.toNat * 4) ({u with words:=r }:Tub)) .auto rfl ?_
  rintro⟨w1,w2,w3⟩ -
  rw[show dS ((w1,w2,w3),({u with words:=r }:Tub))=seps [sl bF 1 w1 (({u with words:=r }:Tub)).words,sl eP 2 w2 (({u with words:=r }:Tub)).bP,sl aL 1 w3 (({u with words:=r }:Tub)).bC] from rfl,show dR ((w1,w2,w3),({u with words:=r }:Tub))=[.int .i64 (({u with words:=r }:Tub)).room,w1,w2,w3] from rfl]
  refine .fY .auto ?_
  refine JD 8 (fun h86=>?_) fun h86=>?_
  ·refine J 2 ?_
   obtain⟨p,q,hpq⟩:∃ p q,u.bP=p::q:=by
    cases h:u.bP with
    | nil=>rw[h] at h86;exact absurd h86 (by simp)
    | cons p q=>exact⟨p,q,rfl⟩
   have hpl:=hpw.2.1
   have hpx:=hpw.2.2.2.2.1
   rw[hpq] at hpl hpx
   have hp16:=hpx p (List.mem_cons_self ..)
   rw[List.length_cons] at hpl
   rw[show({u with words:=r }:Tub).bP=p::q from hpq]
   have hr0:Rd W [sl eP 2 w2 (p::q)] eP 2 w2 (p::q):=Rd.sl .here
   have hr1:=hr0.cut (lo:=1) (hi:=(p::q).length) (by simp) (Nat.le_refl _)
   haveI hI1:∀ (H:List aa) [bX H (sl eP 2 w2 (p::q))],aI W H (cut 2 1 (p::q).length w2) eP 2 (((p::q).take (p::q).length).drop 1):=fun H h=>⟨hr1.at h.has⟩
   refine J 4 ?_
   refine .p (.ix 0 rfl rfl rfl (by simp)) ?_
   refine .p (.la rfl (Cells.rd Rd.s (show(p::q)[0]?=some p from rfl))) ?_
   refine .aw rfl (af.alloc rfl zeroValue295 rfl) ?_
   rintro _ _ ⟨b5,rfl,rfl⟩
   refine J 6 ?_
   refine .aw rfl (af.gQ 295 rfl rfl (by kernel_rfl)) ?_
   rintro _ _ ⟨b94,rfl,rfl⟩
   refine .to (A:=sl eP 2 (.slice (some ⟨b94,0,none⟩) 0 0) ([]:List Ptr)) (Bs:=[]) .nil (fun h e=>.inl ⟨⟨_,rfl⟩,rfl,e⟩) ?_
   refine J 4 ?_
   refine .p (.sliceFrom 1 underlying138 sizeOf295 rfl rfl Rd.s rfl (by simp)) ?_
   refine .aw rfl (af.append rfl underlying138 underlying138 typeInfo295 rfl rfl rfl (by decide) rfl rfl .auto Rd.s (by rw[pj];omega) (xp _)) ?_
   rintro _ _ ⟨v100,rfl,rfl⟩
   refine J 2 ?_
   refine .aw rfl (af.vH sizeOf138 rfl rfl rfl) ?_
   rintro _ _ ⟨rfl,rfl⟩
   refine J 3 ?_
   rw[yA]
   refine .draw [arr (blk v.u) (cC v.u+a.i.n.toNat * 4) [.int .i64 u.room,w1,v100,w3],arr b5 0 (eP p)] [0,0,0,0,0,1,1,2,2,1,1,3] rfl (by kernel_rfl) ?_
   refine J 7 ?_
   refine .d2 rfl Kept.auto (af.gQ 38 rfl rfl (by kernel_rfl)) (by rintro _ _ ⟨b110,rfl,rfl⟩;exact Kept.auto) ?_
   rintro _ _ ⟨b110,rfl,rfl⟩
   refine .d2 rfl Kept.auto (af.fi (enc:=bF) (k:=1) p.x rfl underlying55 underlying55 typeInfo38 rfl rfl rfl (by decide) rfl rfl rfl .auto rfl .auto (by show r.length+1≤_;omega) rfl) (by rintro _ _ ⟨v111,rfl,rfl⟩;exact Kept.auto) ?_
   rintro _ _ ⟨v111,rfl,rfl⟩
   refine J 2 ?_
   refine .d3 rfl (af.vH sizeOf55 rfl rfl rfl) ?_
   rintro _ _ ⟨rfl,rfl⟩
   refine J 5 ?_
   refine .p (.dJ (Y.load isAgg3 rfl (Cell.a (cs:=eP p) rfl)) (show p.who=((p.who.toNat:Nat):Int) by omega)) ?_
   refine .to (A:=cI dR dS (blk v.u) (cC v.u+a.i.n.toNat * 4) ({u with words:=r++[p.x],bP:=q })) (Bs:=[arr (blk v.u) (cC v.u+a.i.n.toNat * 4) [.int .i64 ({u with words:=r++[p.x],bP:=q }).room,v111,v100,w3],sl bF 1 v111 ({u with words:=r++[p.x],bP:=q }).words,sl eP 2 v100 ({u with words:=r++[p.x],bP:=q }).bP,sl aL 1 w3 ({u with words:=r++[p.x],bP:=q }).bC]) .auto mi ?_
   refine .to (A:=eG dR 4 dS v.u ((a.yX u x r).s.jv.set a.i.n.toNat ({u with words:=r++[p.x],bP:=q }))) (Bs:=[cI dR dS (blk v.u) (cC v.u+a.i.n.toNat * 4) ({u with words:=r++[p.x],bP:=q }),gS dR 4 dS v.u (a.yX u x r).s.jv a.i.n.toNat]) .auto (gg ({u with words:=r++[p.x],bP:=q })) ?_
   refine .c call126 rfl (jm (a:=((a.yX u x r).w ((a.yX u x r).s.oC a.i.n.toNat {u with words:=r++[p.x],bP:=q }))) (n:=p.who.toNat) (y:=0) (by omega) (((hk.T.dU (s':=((a.w (a.s.oC a.i.n.toNat {u with words:=r })).aj (a.t.put a.i.a x)).s) (n:=a.n) (t:=a.t.put a.i.a x) rfl ((hk.T a.n).put hx64)).done (a:=((a.w (a.s.oC a.i.n.toNat {u with words:=r })).aj (a.t.put a.i.a x))) (x:=a.i.n) (y:=x) (e:=0) (by decide)) _).i (by show a.late.length≤_;have:=hk.l;omega) (by show a.e.aM.length≤_;have:=hk.w;omega)) fun _ _=>?_
   refine J 1 ?_
   rw[uM hu hwd hpq]
   exact JR 0 ()
  ·refine J 1 ?_
   have hpq:u.bP=[]:=List.eq_nil_of_length_eq_zero (by have h:¬(0:Int)<(u.bP.length:Int):=h86;omega)
   refine .to (A:=cI dR dS (blk v.u) (cC v.u+a.i.n.toNat * 4) (({u with words:=r }:Tub))) (Bs:=[arr (blk v.u) (cC v.u+a.i.n.toNat * 4) [.int .i64 (({u with words:=r }:Tub)).room,w1,w2,w3],sl bF 1 w1 (({u with words:=r }:Tub)).words,sl eP 2 w2 (({u with words:=r }:Tub)).bP,sl aL 1 w3 (({u with words:=r }:Tub)).bC]) .auto mi ?_
   refine .to (A:=eG dR 4 dS v.u (a.yX u x r).s.jv) (Bs:=[cI dR dS (blk v.u) (cC v.u+a.i.n.toNat * 4) (({u with words:=r }:Tub)),gS dR 4 dS v.u (a.yX u x r).s.jv a.i.n.toNat]) .auto (gq hu2) ?_
   rw[BA hu hwd hpq]
   exact JR 0 ()
end Go.SLYtefdijgllbkmfaaGreat
namespace Go.SLYtefdijgllbkmfaaGreat
open Go Go.RowKit
section
variable{a:RA}{choice:Int}
theorem JN(h:a.i.op=20):a.call choice=a.spawn (a.t.eX a.i.b):=by unfold RA.call;exact if_pos h
theorem K1(h:a.i.op=32):a.call choice=(a.aj (a.t.put a.i.a a.t.handle)).done 0 a.t.handle 0:=by unfold RA.call;exact(if_neg (by omega)).trans (if_pos h)
theorem K2(h:a.i.op=24):a.call choice = {a.done 0 0 0 with e:={a.e with yielded:=true } }:=by unfold RA.call;exact(if_neg (by omega)).trans ((if_neg (by omega)).trans (if_pos h))
theorem K3(h:a.i.op=21):a.call choice=a.join (a.t.eX a.i.b):=by unfold RA.call;exact(if_neg (by omega)).trans ((if_neg (by omega)).trans ((if_neg (by omega)).trans (if_pos h)))
theorem Hz(h:a.i.op=22):a.call choice=a.cO (a.t.eX a.i.a):=by unfold RA.call;exact(if_neg (by omega)).trans ((if_neg (by omega)).trans ((if_neg (by omega)).trans ((if_neg (by omega)).trans (if_pos h))))
theorem K4(h:a.i.op=23):a.call choice=(a.say (a.t.eX a.i.a) 0 0 true).fin (a.t.eX a.i.a):=by unfold RA.call;exact(if_neg (by omega)).trans ((if_neg (by omega)).trans ((if_neg (by omega)).trans ((if_neg (by omega)).trans ((if_neg (by omega)).trans (if_pos h)))))
theorem nA(h:25≤a.i.op∧a.i.op≤29):a.call choice=a.gate choice:=by unfold RA.call;exact(if_neg (by omega)).trans ((if_neg (by omega)).trans ((if_neg (by omega)).trans ((if_neg (by omega)).trans ((if_neg (by omega)).trans ((if_neg (by omega)).trans (if_pos (by omega)))))))
theorem JO(h:a.i.op=30):a.call choice=a.down:=by unfold RA.call;exact(if_neg (by omega)).trans ((if_neg (by omega)).trans ((if_neg (by omega)).trans ((if_neg (by omega)).trans ((if_neg (by omega)).trans ((if_neg (by omega)).trans ((if_neg (by omega)).trans (if_pos h)))))))
theorem K5(h:a.i.op=31):a.call choice=a.up choice:=by unfold RA.call;exact(if_neg (by omega)).trans ((if_neg (by omega)).trans ((if_neg (by omega)).trans ((if_neg (by omega)).trans ((if_neg (by omega)).trans ((if_neg (by omega)).trans ((if_neg (by omega)).trans ((if_neg (by omega)).trans (if_pos h))))))))
theorem ID(h:33≤a.i.op):a.call choice=a.kernel (a.t.eX a.i.a) (a.t.eX a.i.b):=by unfold RA.call;exact(if_neg (by omega)).trans ((if_neg (by omega)).trans ((if_neg (by omega)).trans ((if_neg (by omega)).trans ((if_neg (by omega)).trans ((if_neg (by omega)).trans ((if_neg (by omega)).trans ((if_neg (by omega)).trans (if_neg (by omega)))))))))
theorem kC{x:Int}(h:(a.other x).2=0):(a.other x).1=(((a.other x).1.toNat:Nat):Int)∧(a.other x).1.toNat<16∧¬(a.other x).1.toNat=a.n:=by
 obtain⟨m,e,_,h16,hne,_⟩:=qa (show(cA a.s.thr a.n x 16 0).2=0 from h)
 have e:(a.other x).1=(m:Int):=e
 rw[e,Int.toNat_natCast]
 exact⟨rfl,by omega,hne⟩
theorem yC{thr:Nat→RT}:∀ {f n m:Nat},rFree? thr f n=some m→n≤m∧m<n+f∧(thr m).used=false
 | 0,n,m,e=>by cases e
 | f+1,n,m,e=>by
  rw[rFree?] at e
  split at e
  ·obtain⟨h1,h2,h3⟩:=yC e;exact⟨by omega,by omega,h3⟩
  ·rename_i h;cases e;exact⟨Nat.le_refl _,by omega,by simpa using h⟩
theorem qG{s:RSp}{f arg:Int}:(s.begin f arg).2.au=s.au:=by unfold RSp.begin;split <;> rfl
theorem CO{s:RSp}{f arg:Int}(h:¬(s.begin f arg).1<0):(s.begin f arg).1=(((s.begin f arg).1.toNat:Nat):Int)∧(s.begin f arg).1.toNat<16:=by
 unfold RSp.begin at h ⊢
 split at h
 ·exact absurd (by decide:((-1:Int))<0) h
 ·rename_i n e
  obtain⟨_,h2,_⟩:=yC e
  exact⟨rfl,by show n<16;omega⟩
def RA.sp(a:RA)(y:Int):RA:=a.w (a.s.begin a.i.n y).2
theorem Ft{y:Int}(h:(a.s.begin a.i.n y).1<0):a.spawn y=((a.sp y).aj ((a.sp y).t.put a.i.a 0)).done a.i.n 0 2:=by unfold RA.spawn;exact if_pos h
def RA.qP(a:RA)(y:Int)(h:Int)(r:Int):RA:={(a.sp y).aj ((a.sp y).t.put a.i.a h) with e:={a.e with aM:=[r] } }
theorem CP{y:Int}(h:¬(a.s.begin a.i.n y).1<0):a.spawn y=(a.qP y ((a.sp y).s.t (a.s.begin a.i.n y).1.toNat).handle (a.s.begin a.i.n y).1).done a.i.n ((a.sp y).s.t (a.s.begin a.i.n y).1.toNat).handle 0:=by unfold RA.spawn;exact if_neg h
theorem sR{f:Nat→RT}{n m:Nat}{r:Nat→Int}:(dU f n {f n with aq:=r } m).handle=(f m).handle:=by
 unfold dU;split
 ·rename_i e;rw[e]
 ·rfl
end
end Go.SLYtefdijgllbkmfaaGreat
