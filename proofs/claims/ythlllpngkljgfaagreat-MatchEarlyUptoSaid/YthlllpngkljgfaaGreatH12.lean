/- Walks of functions, and what they compute. Conditions: none, this text proves no statement. -/
import Derived.Test.YthlllpngkljgfaaGreatH07
import Derived.Test.YthlllpngkljgfaaGreatProg
import Derived.Test.YthlllpngkljgfaaGreatH11
import Derived.KernelRfl
import Derived.Test.YthlllpngkljgfaaGreatH05
set_option maxRecDepth 20000
set_option maxHeartbeats 4000000
namespace Go.SLYthlllpngkljgfaaGreat
open Go Go.RowKit Go.Proofs Go.Proofs.Tryz
attribute [local irreducible] aq aS bc bx bC Y
theorem mI{W:World}{A:aa}{v:Value}{ps:List aN}{procs:Int}(hr:Rd W [A] ed 8 v ps)(hp:∀ p∈ps,eM W [A] p)(hb:ps.length≤1000000000∧ ∀ p∈ps,p.fs.length≤1000000000∧p.bI.length≤1000000000∧p.aZ.length≤1000000000):Fn Tryz.prog W 14 [.int .i64 procs,v] [A] (Option Nat) (fun o=>.tuple #[dO o,.int .i64 (ec procs (ps.map aN.p))]) (fun o=>o.isSome=decide (ec procs (ps.map aN.p)=0)) (fun o=>[optH (fun b=>AX b (Sy.new procs (ps.map aN.p))) o,A]):=by
 refine Fn.intro (N:=48) func14 rfl ntmps14 rfl fun F=>?_
 haveI hRI:∀ (H:List aa) [bf H A],aw W H v ed 8 ps:=fun H h=>⟨hr.at h.has⟩
 show aq _ _ _ _ _ _ [A,F]
 have hml:(ps.map aN.p).length=ps.length:=List.length_map ..
 have hpm:(ps.map aN.p).map (·.prio)=ps.map (·.prio):=by rw[List.map_map];rfl
 refine J 10 ?_
 refine .c call60 rfl (IL hr hp hb) fun o ho=>?_
 refine JD 14 (fun h18=>?_) fun h18=>?_
 ·refine J 9 ?_
  refine .ey rfl rfl rfl fun w s=>⟨none,?_,(decide_eq_false h18).symm,ai (by repeat (first | exact ax.nil | (apply ax.cons; · repeat (first | exact Take.here | apply Take.there)) | apply ax.Jm | apply ax.Jn | apply ax.void | apply ax.Jk | apply ax.two | (apply ax.Gq; · exact ij) | (apply ax.allM; · exact fun _=>ij) | apply ax.f1 rfl | apply ax.f2 rfl | apply ax.f3 rfl | apply ax.f4 rfl | apply ax.f10 rfl | apply ax.ez | assumption | exact trivial | rfl | omega | (focus (obtain⟨rfl⟩:o=none:=by simpa [h18] using ho)))) s⟩
  rfl
 ·have h18:=Decidable.of_not_not h18
  obtain⟨kb,rfl⟩:=Option.isSome_iff_exists.1 (ho.trans (decide_eq_true h18))
  have hi:=(iW h18).1
  have hps8:ps.length≤8:=by have:=(iW h18).2.2.2.2.2;omega
  refine .fr (A:=optH (fun b=>Gz b (Krn.new procs (ps.map aN.p))) (some kb)) (Bs:=[Gz kb (Krn.new procs (ps.map aN.p))]) .auto eV ?_
  refine .o1 (C:=Gz kb (Krn.new procs (ps.map aN.p))) .auto rfl ?_
  rintro bl -
  refine J 5 ?_
  refine .p (.hG (fun v1=>[v1,(.slice none 0 0),(.int .i64 0),(.slice none 0 0)]) rfl (by kernel_rfl)) ?_
  refine .aj rfl (af.box rfl rfl rfl) ?_
  rintro _ _ ⟨b22,rfl,rfl⟩
  refine J 12 ?_
  refine .bn (X:=Nat×Value) [10,25,26,27,28,29,30,31,32,33,34,35,36,37,38,39,40] (fun z=>ps.length-z.1) (fun z=>z.1≤ps.length) (fun z=>[(25,some (.int .i64 (z.1:Int)))]) (fun z=>[arr b22 0 [ptr kb,z.2,.int .i64 0,.slice none 0 0],sl au 1 z.2 ((ps.take z.1).map (·.prio)),bS kb bl (Krn.new procs (ps.map aN.p)),A,F]) (0,.slice none 0 0) ?_ ?_ ?_ ?_
  ·exact Nat.zero_le _
  ·exact⟨rfl,trivial⟩
  ·exact fun w s=>ax.kept .auto w s
  rintro⟨n,u⟩ hn
  simp only at hn
  refine JD 6 (fun h26=>?_) fun h26=>?_
  ·refine J 6 ?_
   obtain⟨x,hx⟩:=ak (show n<ps.length by omega)
   have hpx:=hp x (List.mem_of_getElem? hx)
   refine .cK (fun w s=>xz hpx .auto w s) fun hone=>?_
   refine J 1 ?_
   refine .p (.la rfl (Cells.rd Rd.s hx)) ?_
   refine .aj rfl (af.alloc rfl zeroValue56 rfl) ?_
   rintro _ _ ⟨b10,rfl,rfl⟩
   refine .aj rfl (af.KI (by exact sizeOf56) rfl rfl hone rfl) ?_
   rintro _ _ ⟨rfl,rfl⟩
   refine J 2 ?_
   refine .draw [arr b22 0 [ptr kb,u,.int .i64 0,.slice none 0 0],arr b10 0 (ed x)] [0,0,0,0,0,1,1,2,2,1,1,3] rfl (by kernel_rfl) ?_
   refine J 7 ?_
   refine .d2 rfl Kept.auto (af.gI 3 rfl rfl (by kernel_rfl)) (by rintro _ _ ⟨b36,rfl,rfl⟩;exact Kept.auto) ?_
   rintro _ _ ⟨b36,rfl,rfl⟩
   refine .d2 rfl Kept.auto (af.gg (enc:=au) (k:=1) x.prio rfl underlying50 underlying50 typeInfo3 rfl rfl rfl (by decide) rfl rfl rfl .auto rfl .auto (by rw[List.length_map,List.length_take];omega) rfl) (by rintro _ _ ⟨v37,rfl,rfl⟩;exact Kept.auto) ?_
   rintro _ _ ⟨v37,rfl,rfl⟩
   refine J 2 ?_
   refine .d3 rfl (af.lY sizeOf50 rfl rfl rfl) ?_
   rintro _ _ ⟨rfl,rfl⟩
   refine J 7 ?_
   refine .aL (n+1,v37) .auto rfl ?_ ?_ ?_ ?_
   ·show ps.length-(n+1)<ps.length-n;omega
   ·show n+1≤_;omega
   ·exact⟨rfl,trivial⟩
   ·show ∀ w,Sat _ w _→Sat _ w (seps [_,sl au 1 v37 ((ps.take (n+1)).map (·.prio)),_,A,F])
    rw[FB hx]
    exact fun w s=>ax.kept .auto w s
  ·obtain rfl:n=ps.length:=by omega
   rw[List.take_length]
   refine J 12 ?_
   refine .c call61 rfl (rD (A:=sl au 1 u (ps.map (·.prio))) (prio:=(ps.map (·.prio))) (turn:=0) (Rd.sl .here) (by rw[List.length_map];omega) hi (by decide)) fun _ _=>?_
   refine J 10 ?_
   rw[show Sy.new procs (ps.map aN.p)=⟨((Krn.new procs (ps.map aN.p)).share (ps.map (·.prio)) 0).1,(ps.map (·.prio)),0,[]⟩ from by unfold Sy.new;rw[hpm]]
   refine .ey rfl rfl rfl fun w s=>⟨some b22,?_,(decide_eq_true h18).symm,ai .auto s⟩
   rw[h18];rfl
theorem fc{W:World}{b kb:Nat}{bl:List Nat}{s:Sy}:Fn Tryz.prog W 20 [ptr b] [fb b kb bl s] Unit (fun _=>ptr kb) (fun _=>True) (fun _=>[fb b kb bl s]):=by
 refine Fn.intro (N:=9) func20 rfl ntmps20 rfl fun F=>?_
 show aq _ _ _ _ _ _ [fb b kb bl s,F]
 refine .o2 (C:=fb b kb bl s) .auto rfl ?_
 rintro v vl -
 refine J 12 ?_
 refine .ew rfl ?_
 exact JR 12 ()
theorem DI{W:World}{b kb:Nat}{bl:List Nat}{s:Sy}(hl:s.log.length≤1000000):Fn Tryz.prog W 17 [ptr b] [fb b kb bl s] Value (fun u=>u) (fun _=>True) (fun u=>[sl fG 4 u s.log,fb b kb bl s]):=by
 refine Fn.intro (N:=11) func17 rfl ntmps17 rfl fun F=>?_
 show aq _ _ _ _ _ _ [fb b kb bl s,F]
 refine .o2 (C:=fb b kb bl s) .auto rfl ?_
 rintro v vl -
 refine J 12 ?_
 refine .ew rfl ?_
 refine J 8 ?_
 refine .c call63 rfl (Ie (A:=sl fG 4 vl s.log) (Rd.sl .here) (by omega)) fun u9 _=>?_
 refine .c call62 rfl KS fun u10 _=>?_
 exact JR 4 u10
theorem IN{W:World}{b kb:Nat}{bl:List Nat}{s:Sy}{p c:Int}{m:Nat}(hk:nk m s.k)(hl:s.log.length≤1000000):Fn Tryz.prog W 64 [ptr b,.int .i64 p,.int .i64 c] [fb b kb bl s] Unit (fun _=>.int .i64 (s.rv p c).1) (fun _=>True) (fun _=>[fb b kb bl (s.rv p c).2]):=by
 refine Fn.intro (N:=38) func64 rfl ntmps64 rfl fun F=>?_
 show aq _ _ _ _ _ _ [fb b kb bl s,F]
 refine .o2 (C:=fb b kb bl s) .auto rfl ?_
 rintro v vl -
 refine J 13 ?_
 refine .c call125 rfl (Fx (k:=s.k) (b:=kb) (bl:=bl) (p:=p) (c:=c) hk) fun u17 _=>?_
 refine .cK (fun w s=>Rd.isSl (Rd.sl .auto) w s) fun hu17=>?_
 refine J 1 ?_
 refine .p (.extract (v:=.int .i64 (s.k.step p c).1.1) rfl rfl) ?_
 refine .p (.extract (v:=.agg (dx u17 (s.k.step p c).1.2.1).toArray) rfl rfl) ?_
 refine .p (.extract (v:=.int .i64 (s.k.step p c).1.2.2) rfl rfl) ?_
 refine .aj rfl (af.alloc rfl zeroValue68 rfl) ?_
 rintro _ _ ⟨b8,rfl,rfl⟩
 refine J 1 ?_
 refine .aj rfl (af.iJ (vs:=dx u17 (s.k.step p c).1.2.1) (by exact sizeOf68) rfl rfl (da hu17) (by rfl)) ?_
 rintro _ _ ⟨rfl,rfl⟩
 refine JD 10 (fun h22=>?_) fun h22=>?_
 ·refine .draw [arr b 0 [ptr kb,v,.int .i64 s.turn,vl],arr b8 0 (dx u17 (s.k.step p c).1.2.1)] [0,0,0,0,0,1,1,1,1,1,2,2,1,1,3] rfl (by kernel_rfl) ?_
  refine J 9 ?_
  refine .p (.F1 (fun v1 v2 v3 v4=>[v1,v2,v3,v4]) rfl rfl rfl rfl (by kernel_rfl)) ?_
  refine .d2 rfl Kept.auto (af.gI 42 rfl rfl (by kernel_rfl)) (by rintro _ _ ⟨b33,rfl,rfl⟩;exact Kept.auto) ?_
  rintro _ _ ⟨b33,rfl,rfl⟩
  refine .d2 rfl Kept.auto (af.gg (enc:=fG) (k:=4) (⟨1,(s.k.step p c).1.1,(s.k.step p c).1.2.1.slot,c⟩:gw) rfl underlying30 underlying30 typeInfo42 rfl rfl rfl (by decide) rfl rfl rfl .auto rfl .auto (by omega) rfl) (by rintro _ _ ⟨v34,rfl,rfl⟩;exact Kept.auto) ?_
  rintro _ _ ⟨v34,rfl,rfl⟩
  refine J 2 ?_
  refine .d3 rfl (af.lY sizeOf30 rfl rfl rfl) ?_
  rintro _ _ ⟨rfl,rfl⟩
  refine J 9 ?_
  rw[qP h22]
  exact JR 0 ()
 ·refine J 9 ?_
  rw[uE h22]
  exact JR 0 ()
theorem yy{W:World}{b kb:Nat}{bl:List Nat}{s:Sy}{x:uf}{m:Nat}(hk:nk m s.k)(hi:Inv m s.k)(hm:m≤2000000)(hl:s.log.length≤1000000)(hp:s.prio.length≤1000):Fn Tryz.prog W 18 [ptr b,.agg (mB x).toArray] [fb b kb bl s] Unit (fun _=>.int .i64 (s.do x).1) (fun _=>True) (fun _=>[fb b kb bl (s.do x).2]):=by
 refine Fn.intro (N:=94) func18 rfl ntmps18 rfl fun F=>?_
 show aq _ _ _ _ _ _ [fb b kb bl s,F]
 refine J 2 ?_
 refine .aj rfl (af.box rfl rfl rfl) ?_
 rintro _ _ ⟨b3,rfl,rfl⟩
 refine .mem (H':=[arr b3 0 (mB x),fb b kb bl s,F]) (fun w s=>s) ?_
 refine J 10 ?_
 refine .ew rfl ?_
 refine JD 21 (fun h10=>?_) fun h10=>?_
 ·refine J 6 ?_
  refine .c call64 rfl (IN (s:=s) (p:=x.a) (c:=x.b) hk hl) fun _ _=>?_
  refine J 11 ?_
  rw[do_1 h10]
  exact JR 0 ()
 ·refine JD 6 (fun h18=>?_) fun h18=>?_
  ·refine J 2 ?_
   refine .o2 (C:=fb b kb bl s) .auto rfl ?_
   rintro v vl -
   refine J 4 ?_
   refine .c call65 rfl (Fz (k:=s.k) (b:=kb) (bl:=bl) hk) fun _ _=>?_
   refine J 8 ?_
   refine .p (.hG (fun v1=>[v1,(.int .i64 0),(.int .i64 0),(.int .i64 0)]) rfl (by kernel_rfl)) ?_
   refine .aj rfl (af.gI 42 rfl rfl (by kernel_rfl)) ?_
   rintro _ _ ⟨b31,rfl,rfl⟩
   refine .aj rfl (af.gg (enc:=fG) (k:=4) (⟨3,0,0,0⟩:gw) rfl underlying30 underlying30 typeInfo42 rfl rfl rfl (by decide) rfl rfl rfl .auto rfl .auto (by omega) rfl) ?_
   rintro _ _ ⟨v32,rfl,rfl⟩
   refine J 2 ?_
   refine .aj rfl (af.lY sizeOf30 rfl rfl rfl) ?_
   rintro _ _ ⟨rfl,rfl⟩
   refine J 10 ?_
   rw[NZ h10 h18]
   exact JR 0 ()
  ·refine JD 6 (fun h35=>?_) fun h35=>?_
   ·refine J 1 ?_
    refine .draw [] [1,1,1,1,1,1,1,1,3,1] rfl (by kernel_rfl) ?_
    refine .o2 (C:=fb b kb bl s) .auto rfl ?_
    rintro v vl -
    refine J 8 ?_
    refine .c call66 rfl (Fy (k:=s.k) (b:=kb) (bl:=bl) (q:=x.a) (c:=x.b) hk) fun _ _=>?_
    refine JD 9 (fun h47=>?_) fun h47=>?_
    ·refine .draw [arr b 0 [ptr kb,v,.int .i64 s.turn,vl],arr b3 0 (mB x)] [0,0,0,0,0,1,1,1,1,1,2,2,1,1,3] rfl (by kernel_rfl) ?_
     refine J 9 ?_
     refine .p (.xk (fun v1 v2 v3=>[v1,v2,(.int .i64 0),v3]) rfl rfl rfl (by kernel_rfl)) ?_
     refine .d2 rfl Kept.auto (af.gI 42 rfl rfl (by kernel_rfl)) (by rintro _ _ ⟨b58,rfl,rfl⟩;exact Kept.auto) ?_
     rintro _ _ ⟨b58,rfl,rfl⟩
     refine .d2 rfl Kept.auto (af.gg (enc:=fG) (k:=4) (⟨2,x.a,0,x.b⟩:gw) rfl underlying30 underlying30 typeInfo42 rfl rfl rfl (by decide) rfl rfl rfl .auto rfl .auto (by omega) rfl) (by rintro _ _ ⟨v59,rfl,rfl⟩;exact Kept.auto) ?_
     rintro _ _ ⟨v59,rfl,rfl⟩
     refine J 2 ?_
     refine .d3 rfl (af.lY sizeOf30 rfl rfl rfl) ?_
     rintro _ _ ⟨rfl,rfl⟩
     refine J 10 ?_
     rw[Ng h10 h18 h35,FA h47]
     exact JR 0 ()
    ·refine J 10 ?_
     rw[Ng h10 h18 h35,IM h47]
     exact JR 0 ()
   ·refine JD 6 (fun h62=>?_) fun h62=>?_
    ·refine .draw [] [1,1,1,1,1,1,3,1] rfl (by kernel_rfl) ?_
     refine .o2 (C:=fb b kb bl s) .auto rfl ?_
     rintro v vl -
     refine J 6 ?_
     refine .c call67 rfl (yx (k:=s.k) (b:=kb) (bl:=bl) (p:=x.a) hk) fun _ _=>?_
     refine J 11 ?_
     rw[N0 h10 h18 h35 h62]
     exact JR 0 ()
    ·refine JD 6 (fun h71=>?_) fun h71=>?_
     ·refine J 1 ?_
      refine .o2 (C:=fb b kb bl s) .auto rfl ?_
      rintro v vl -
      refine J 16 ?_
      rw[N1 h10 h18 h35 h62 h71]
      exact JR 0 ()
     ·refine JD 6 (fun h78=>?_) fun h78=>?_
      ·refine .draw [] [1,1,1,1,1,1,1,1,1,1,1,1,3] rfl (by kernel_rfl) ?_
       refine .o2 (C:=fb b kb bl s) .auto rfl ?_
       rintro v vl -
       refine J 12 ?_
       refine .c call61 rfl (rD (k:=s.k) (b:=kb) (bl:=bl) (A:=sl au 1 v s.prio) (v:=v) (prio:=s.prio) (turn:=s.turn) (Rd.sl .here) (by omega) hi (by omega)) fun _ _=>?_
       refine J 10 ?_
       rw[N2 h10 h18 h35 h62 h71 h78]
       exact JR 0 ()
      ·refine J 12 ?_
       rw[N3 h10 h18 h35 h62 h71 h78]
       exact JR 0 ()
end Go.SLYthlllpngkljgfaaGreat
namespace Go.SLYthlllpngkljgfaaGreat
open Go Go.RowKit
theorem FC{k:Krn}{n c:Int}(h:(k.done n c).1≠0):(k.done n c).2=k:=by
 cases e:aB k.libs n with
 | none=>rw[pN e]
 | some l =>
  obtain⟨h0, -,hl⟩:=bF e
  obtain⟨j,rfl⟩:∃ j:Nat,n=(j:Int):=⟨n.toNat,by omega⟩
  rw[Int.toNat_natCast] at hl
  rw[mz hl] at h ⊢
  have hs:(l.aO.done c).1=kO.z∧(l.aO.done c).2.2=l.aO:=by
   simp only at h
   unfold Spc.done at h ⊢
   simp only at h ⊢
   split
   ·exact⟨rfl,rfl⟩
   ·rename_i h3;rw[if_neg h3] at h;exact absurd rfl h
  have:l.fH c=l:=by
   unfold Lib.fH
   rw[hs.1,hs.2]
   exact jq l
  show(⟨k.owner,k.libs.set j (l.fH c)⟩:Krn)=k
  rw[this,fA hl]
theorem yz(k:Krn)(p:Int):(k.preempt p).2.libs.length=k.libs.length:=by
 unfold Krn.preempt
 split
 ·rfl
 ·split
  ·rfl
  ·split
   ·rfl
   ·exact List.length_set ..
theorem FD(k:Krn)(n c:Int):(k.done n c).2.libs.length=k.libs.length:=by
 unfold Krn.done
 split
 ·rfl
 ·exact List.length_set ..
structure OQ(s:Sy)(x:uf)(r:List gw):Prop where
 log:(s.do x).2.log=s.log++r
 one:r.length≤1
 err:(s.do x).1≠0→r.length=0
 no:x.kind=5∨x.kind=6∨x.kind=4→r.length=0
 tick:x.kind=2→r.length=1
 done:x.kind=3→(s.do x).1=0→r.length=1
theorem Kv{m:Nat}{s:Sy}(hi:Inv m s.k)(x:uf):(s.do x).2.k.libs.length=s.k.libs.length:=by
 unfold Sy.do
 split
 ·exact wC _ _ _
 ·split
  ·exact List.length_map ..
  ·split
   ·exact FD _ _ _
   ·split
    ·exact yz _ _
    ·split
     ·rfl
     ·split
      ·exact(fF hi _ _).2.ll
      ·rfl
end Go.SLYthlllpngkljgfaaGreat
namespace Go.SLYthlllpngkljgfaaGreat
open Go Go.RowKit
section
variable{W:World}{H:List aa}{α:Type}
theorem Rd.DJ{enc:α→List Value}{k:Nat}{v:Value}{xs:List α}{n:Nat}(h2:n≤xs.length)(h:Rd W H enc k v xs):Rd W H enc k (Go.SLYthlllpngkljgfaaGreat.cut k 0 n v) (xs.take n):=by
 have:=h.cut (Nat.zero_le n) h2
 rwa [List.drop_zero] at this
end
end Go.SLYthlllpngkljgfaaGreat
namespace Go.SLYthlllpngkljgfaaGreat
open Go Go.RowKit
theorem uF{bl:List Nat}{ls:List Lib}{n:Int}(hb:bl.length=ls.length)(h:aB ls n=none):aB bl n=none:=by
 unfold aB at *
 split at h
 ·rename_i h0;rw[if_pos h0]
 ·rename_i h0
  rw[if_neg h0]
  rw[List.getElem?_eq_none_iff] at h ⊢
  omega
/-! law 19's own fact -/
def I7:List Ins:=[⟨1,1,0,0,5⟩,⟨38,1,0,0,0⟩]
def DK:fM:=⟨[I7],0,0,0,[],[],0,0⟩
def nm(x y:Nat):aN:=⟨wb y 1,[(.slice (some ⟨x,0,none⟩) 2 2,I7)],0,0,0,.slice none 0 0,[],.slice none 0 0,[],0,0⟩
def O6(x y z:Nat):aa:=seps [arr z 0 (ed (nm x y)),arr y 0 [.slice (some ⟨x,0,none⟩) 2 2],arr x 0 (rows dH I7)]
theorem Cp{x y:Nat}:[nm x y].length≤1000000000∧ ∀ p∈ [nm x y],p.fs.length≤1000000000∧p.bI.length≤1000000000∧p.aZ.length≤1000000000:=⟨by show 1≤_;decide,fun p hp=>by
 have e:p=nm x y:=by simpa using hp
 subst e
 exact⟨by show 1≤_;decide,by show 0≤_;decide,by show 0≤_;decide⟩⟩
theorem N6:ec 2 [DK]=0:=by decide +kernel
def Mj:Nat→Sy
 | 0=>Sy.new 2 [DK]
 | n+1=>((Mj n).do ⟨1,0,4⟩).2
theorem Kw:∀ p∈ [DK], ∀ f∈p.funcs, ∀ i∈f,fL i.n:=fun p hp f hf i hi=>by
 have e:p=DK:=by simpa using hp
 subst e
 have:f=I7:=by simpa [DK] using hf
 subst this
 have:i=⟨1,1,0,0,5⟩∨i=⟨38,1,0,0,0⟩:=by simpa [I7] using hi
 rcases this with rfl | rfl <;> unfold fL <;> decide
theorem i19:∀ n,n≤400→wF n (Mj n)
 | 0,_=>wF.new N6 Kw
 | n+1,h=>(i19 n (by omega)).do (by omega) _
end Go.SLYthlllpngkljgfaaGreat
namespace Go.SLYthlllpngkljgfaaGreat
open Go Go.RowKit Go.Proofs Go.Proofs.Tryz
attribute [local irreducible] aq aS bc bx bC Y
theorem w9{W:World}  : Fn Tryz.prog W 20 [.pointer none] [] Unit (fun _=>.pointer none) (fun _=>True) (fun _=>[]):=by
 refine Fn.intro (N:=9) func20 rfl ntmps20 rfl fun F=>?_
 show aq _ _ _ _ _ _ [F]
 refine J 12 ?_
 refine .fu rfl ?_
 exact JR 7 ()
theorem uG{W:World}{b kb:Nat}{bl:List Nat}{s:Sy}{n:Int}{m:Nat}(_hk:nk m s.k)(hg:aB s.k.libs n=none):Fn Tryz.prog W 23 [ptr b,.int .i64 n] [fb b kb bl s] Value (fun u=>u) (fun _=>True) (fun u=>[sl cP 6 u (s.av n),fb b kb bl s]):=by
 refine Fn.intro (N:=11) func23 rfl ntmps23 rfl fun F=>?_
 show aq _ _ _ _ _ _ [fb b kb bl s,F]
 refine J 8 ?_
 refine .c call20 rfl fc fun _ _=>?_
 refine .o2 (C:=fb b kb bl s) .auto rfl ?_
 rintro v vl -
 refine .o3 (C:=bS kb bl s.k) .auto rfl ?_
 rintro vo vl xs ⟨hxb,hxs⟩
 have hxx:=And.intro hxb hxs
 have hgb:=uF (ke hxb hxs) hg
 refine J 1 ?_
 refine .c call48 rfl (gS (b:=kb) (bl:=bl) (k:=s.k) (n:=n)) fun _ _=>?_
 rw[hgb]
 refine .c call49 rfl uC fun _ _=>?_
 refine .c call69 rfl nG fun _ _=>?_
 refine J 4 ?_
 rw[(ss hg).1]
 refine .aG rfl rfl fun w s=>⟨(.slice none 0 0),?_,trivial,ai .auto s⟩
 rfl
theorem rJ{W:World}{b kb:Nat}{bl:List Nat}{s:Sy}{n:Int}{m:Nat}(hk:nk m s.k){j:Nat}{l:Lib}(hn:n=(j:Int))(hg:s.k.libs[j]?=some l):Fn Tryz.prog W 23 [ptr b,.int .i64 n] [fb b kb bl s] Value (fun u=>u) (fun _=>True) (fun u=>[sl cP 6 u (s.av n),fb b kb bl s]):=by
 refine Fn.intro (N:=11) func23 rfl ntmps23 rfl fun F=>?_
 subst hn
 show aq _ _ _ _ _ _ [fb b kb bl s,F]
 refine J 8 ?_
 refine .c call20 rfl fc fun _ _=>?_
 refine .o2 (C:=fb b kb bl s) .auto rfl ?_
 rintro v vl -
 refine .o3 (C:=bS kb bl s.k) .auto rfl ?_
 rintro vo vl xs ⟨hxb,hxs⟩
 have hxx:=And.intro hxb hxs
 obtain⟨x,hx,hxe,hbx⟩:=eX hxb hxs hg
 subst hxe
 have hlo:=hk.gY x.2 (List.mem_of_getElem? hg)
 refine J 1 ?_
 refine .c call48 rfl (gS (b:=kb) (bl:=bl) (k:=s.k) (n:=(j:Int))) fun _ _=>?_
 rw[bb,hbx]
 refine .o3 (C:=bS kb bl s.k) .auto rfl ?_
 rintro vo2 vl2 xs2 ⟨hxb2,hxs2⟩
 obtain⟨x2,hx2,hxe2,hbx2⟩:=eX hxb2 hxs2 hg
 have hxq:x2=x:=Prod.ext (Option.some.inj (hbx2.symm.trans hbx)) hxe2
 subst hxq
 have hxx2:=And.intro hxb2 hxs2
 refine .fr .auto (c0 (f:=fun x:Nat×Lib=>df x.1 x.2) hx2) ?_
 refine .o2 (C:=df x2.1 x2.2) .auto rfl ?_
 rintro bs br -
 refine .c call49 rfl (jj (b:=x2.1) (bs:=bs) (br:=br) (l:=x2.2)) fun _ _=>?_
 refine .o2 (C:=bJ x2.1 bs br x2.2) .auto rfl ?_
 rintro vv vw -
 refine .c call69 rfl (pX (b:=bs) (s:=x2.2.aO) (Nat.le_trans hlo.1.sp.av (by decide))) fun u10 _=>?_
 refine .to (A:=aD (fun x:Nat×Lib=>df x.1 x.2) xs2) .auto (eW (f:=fun x:Nat×Lib=>df x.1 x.2) hx2) ?_
 refine J 4 ?_
 rw[(DH hg).1]
 exact JR 0 u10
theorem rE{W:World}{b kb:Nat}{bl:List Nat}{s:Sy}{n:Int}{m:Nat}(hk:nk m s.k):Fn Tryz.prog W 23 [ptr b,.int .i64 n] [fb b kb bl s] Value (fun u=>u) (fun _=>True) (fun u=>[sl cP 6 u (s.av n),fb b kb bl s]):=by
 cases hg:aB s.k.libs n with
 | none=>exact uG hk hg
 | some l =>
  obtain⟨h0, -,h1⟩:=bF hg
  exact rJ hk (j:=n.toNat) (by omega) h1
theorem vk{W:World}{b kb:Nat}{bl:List Nat}{s:Sy}{n:Int}{m:Nat}(_hk:nk m s.k)(hg:aB s.k.libs n=none):Fn Tryz.prog W 25 [ptr b,.int .i64 n] [fb b kb bl s] Value (fun u=>u) (fun _=>True) (fun u=>[sl cO 1 u (s.mem n),fb b kb bl s]):=by
 refine Fn.intro (N:=11) func25 rfl ntmps25 rfl fun F=>?_
 show aq _ _ _ _ _ _ [fb b kb bl s,F]
 refine J 8 ?_
 refine .c call20 rfl fc fun _ _=>?_
 refine .o2 (C:=fb b kb bl s) .auto rfl ?_
 rintro v vl -
 refine .o3 (C:=bS kb bl s.k) .auto rfl ?_
 rintro vo vl xs ⟨hxb,hxs⟩
 have hxx:=And.intro hxb hxs
 have hgb:=uF (ke hxb hxs) hg
 refine J 1 ?_
 refine .c call48 rfl (gS (b:=kb) (bl:=bl) (k:=s.k) (n:=n)) fun _ _=>?_
 rw[hgb]
 refine .c call49 rfl uC fun _ _=>?_
 refine .c call70 rfl pW fun _ _=>?_
 refine J 4 ?_
 rw[(ss hg).2]
 refine .aG rfl rfl fun w s=>⟨(.slice none 0 0),?_,trivial,ai .auto s⟩
 rfl
theorem uH{W:World}{b kb:Nat}{bl:List Nat}{s:Sy}{n:Int}{m:Nat}(hk:nk m s.k){j:Nat}{l:Lib}(hn:n=(j:Int))(hg:s.k.libs[j]?=some l):Fn Tryz.prog W 25 [ptr b,.int .i64 n] [fb b kb bl s] Value (fun u=>u) (fun _=>True) (fun u=>[sl cO 1 u (s.mem n),fb b kb bl s]):=by
 refine Fn.intro (N:=11) func25 rfl ntmps25 rfl fun F=>?_
 subst hn
 show aq _ _ _ _ _ _ [fb b kb bl s,F]
 refine J 8 ?_
 refine .c call20 rfl fc fun _ _=>?_
 refine .o2 (C:=fb b kb bl s) .auto rfl ?_
 rintro v vl -
 refine .o3 (C:=bS kb bl s.k) .auto rfl ?_
 rintro vo vl xs ⟨hxb,hxs⟩
 have hxx:=And.intro hxb hxs
 obtain⟨x,hx,hxe,hbx⟩:=eX hxb hxs hg
 subst hxe
 have hlo:=hk.gY x.2 (List.mem_of_getElem? hg)
 refine J 1 ?_
 refine .c call48 rfl (gS (b:=kb) (bl:=bl) (k:=s.k) (n:=(j:Int))) fun _ _=>?_
 rw[bb,hbx]
 refine .o3 (C:=bS kb bl s.k) .auto rfl ?_
 rintro vo2 vl2 xs2 ⟨hxb2,hxs2⟩
 obtain⟨x2,hx2,hxe2,hbx2⟩:=eX hxb2 hxs2 hg
 have hxq:x2=x:=Prod.ext (Option.some.inj (hbx2.symm.trans hbx)) hxe2
 subst hxq
 have hxx2:=And.intro hxb2 hxs2
 refine .fr .auto (c0 (f:=fun x:Nat×Lib=>df x.1 x.2) hx2) ?_
 refine .o2 (C:=df x2.1 x2.2) .auto rfl ?_
 rintro bs br -
 refine .c call49 rfl (jj (b:=x2.1) (bs:=bs) (br:=br) (l:=x2.2)) fun _ _=>?_
 refine .o2 (C:=bJ x2.1 bs br x2.2) .auto rfl ?_
 rintro vv vw -
 refine .c call70 rfl (rC (b:=bs) (s:=x2.2.aO) (Nat.le_trans hlo.1.sp.mem (by decide))) fun u10 _=>?_
 refine .to (A:=aD (fun x:Nat×Lib=>df x.1 x.2) xs2) .auto (eW (f:=fun x:Nat×Lib=>df x.1 x.2) hx2) ?_
 refine J 4 ?_
 rw[(DH hg).2]
 exact JR 0 u10
theorem Cq{W:World}{b kb:Nat}{bl:List Nat}{s:Sy}{n:Int}{m:Nat}(hk:nk m s.k):Fn Tryz.prog W 25 [ptr b,.int .i64 n] [fb b kb bl s] Value (fun u=>u) (fun _=>True) (fun u=>[sl cO 1 u (s.mem n),fb b kb bl s]):=by
 cases hg:aB s.k.libs n with
 | none=>exact vk hk hg
 | some l =>
  obtain⟨h0, -,h1⟩:=bF hg
  exact uH hk (j:=n.toNat) (by omega) h1
end Go.SLYthlllpngkljgfaaGreat
namespace Go.SLYthlllpngkljgfaaGreat
open Go Go.RowKit
def may(w:Int)(e:Ev):Bool:=decide (e.ab=w) && (decide (0<e.mode) || decide (e.kind=3) || decide (e.kind=4))
def jC(w:Int)(v:aM):Nat:=(if v.runs=true∧v.ab=w then 1 else 0)+v.evs.countP (may w)
def sumP(w:Int):List aM→Nat
 | []=>0
 | v::l=>jC w v+sumP w l
def rowN(w:Int):List (List Int)→Nat
 | []=>0
 | r::l=>r.count w+rowN w l
def xa(w:Int)(l:Lib):Nat:=rowN w l.rows+sumP w l.vs+l.waiting.countP (may w)
def mJ(e:Ev):Prop:=0<e.mode→(e.mode=7∧0≤e.ab)∨(e.mode≠7∧e.ab<0)
structure fm(v:aM):Prop where
 e:∀ e∈v.evs,mJ e
 t:v.mode=5∨v.mode=6∨v.mode=7→0≤v.ab
structure Pk(l:Lib):Prop where
 n:∀ w,0≤w→xa w l=cY l.aO w
 v:∀ v∈l.vs,fm v
 w:∀ e∈l.waiting,mJ e
 rl:l.rows.length=l.vs.length
 rg:∀ r∈l.rows, ∀ t∈r,(0:Int)≤t
theorem gn{w:Int}{vs:List aM}{i:Nat}{v:aM}(h:vs[i]?=some v)(x:aM):sumP w (vs.set i x)+jC w v=sumP w vs+jC w x:=by
 induction vs generalizing i with
 | nil=>simp at h
 | cons y vs ih =>
  cases i with
  | zero =>
   obtain rfl:y=v:=by simpa using h
   simp only[List.set_cons_zero,sumP];omega
  | succ i =>
   have:=ih (i:=i) (by simpa using h)
   simp only[List.set_cons_succ,sumP];omega
theorem AH{w:Int}{rows:List (List Int)}{i:Nat}{r:List Int}(h:rows[i]?=some r)(x:List Int):rowN w (rows.set i x)+r.count w=rowN w rows+x.count w:=by
 induction rows generalizing i with
 | nil=>simp at h
 | cons y rows ih =>
  cases i with
  | zero =>
   obtain rfl:y=r:=by simpa using h
   simp only[List.set_cons_zero,rowN];omega
  | succ i =>
   have:=ih (i:=i) (by simpa using h)
   simp only[List.set_cons_succ,rowN];omega
theorem IP{t:Int}:∀ {rows:List (List Int)},rowN t rows=0→ye rows t=false
 | [],_=>rfl
 | r::rows,h=>by
  unfold rowN at h
  have h1:r.contains t=false:=by
   rw[List.contains_eq_mem]
   exact decide_eq_false (fun hm=>by have:=List.count_pos_iff.2 hm;omega)
  have h2:=IP (t:=t) (rows:=rows) (by omega)
  unfold ye at h2 ⊢
  rw[List.any_cons,h1,h2];rfl
theorem DL{rows:List (List Int)}{i:Nat}{t:Int}(hi:i<rows.length)(h:rowN t rows=0)(w:Int):rowN w (rAdd rows (i:Int) t)=rowN w rows+(if t=w then 1 else 0):=by
 obtain⟨r,hr⟩:=ak hi
 unfold rAdd
 rw[IP h,bb,hr]
 simp only[Bool.false_eq_true,if_false,Int.toNat_natCast]
 have:=AH (w:=w) hr (r++[t])
 rw[List.count_append,List.count_singleton] at this
 by_cases e:t=w
 ·rw[if_pos e];rw[if_pos (by simpa using e)] at this;omega
 ·rw[if_neg e];rw[if_neg (by simpa using e)] at this;omega
theorem IQ{i:Nat}:∀ {ts:List Int} {rows:List (List Int)},i<rows.length→(∀ x∈ts,rowN x rows=0)→(∀ x,ts.count x≤1)→ ∀ w,rowN w (dU rows (i:Int) ts)=rowN w rows+ts.count w
 | [],_,_,_,_,_=>rfl
 | t::ts,rows,hi,h0,h1,w=>by
  have ht:=h0 t (List.mem_cons_self ..)
  have hn:t ∉ ts:=fun hm=>by
   have:=h1 t
   rw[List.count_cons_self] at this
   have:=List.count_pos_iff.2 hm
   omega
  show rowN w (dU (rAdd rows (i:Int) t) (i:Int) ts)=_
  rw[IQ (ts:=ts) (rows:=rAdd rows (i:Int) t) (by rw[zX];exact hi) (fun x hx=>by
   have hne:¬t=x:=fun e=>hn (by rw[e];exact hx)
   rw[DL hi ht,if_neg hne,h0 x (List.mem_cons_of_mem _ hx)]) (fun x=>by
   have:=h1 x
   rw[List.count_cons] at this
   omega) w,DL hi ht,List.count_cons]
  by_cases e:t=w
  ·rw[if_pos e,if_pos (by simpa using e)];omega
  ·rw[if_neg e,if_neg (by simpa using e)];omega
theorem Kx{rows:List (List Int)}{p t:Int}(h:∀ r∈rows, ∀ x∈r,(0:Int)≤x)(ht:0≤t):∀ r∈rAdd rows p t, ∀ x∈r,(0:Int)≤x:=fun r hr x hx=>by
 unfold rAdd at hr
 split at hr
 ·exact h r hr x hx
 ·split at hr
  ·exact h r hr x hx
  ·rename_i y e
   rcases List.mem_or_eq_of_mem_set hr with hr | rfl
   ·exact h r hr x hx
   ·rcases List.mem_append.1 hx with hx | hx
    ·exact h y (List.mem_of_getElem? (bF e).2.2) x hx
    ·obtain rfl:=List.mem_singleton.1 hx;exact ht
theorem mK:∀ {ts:List Int} {rows:List (List Int)} {p:Int},(∀ r∈rows, ∀ x∈r,(0:Int)≤x)→(∀ t∈ts,(0:Int)≤t)→ ∀ r∈dU rows p ts, ∀ x∈r,(0:Int)≤x
 | [],_,_,h,_=>h
 | t::ts,rows,p,h,ht=>mK (ts:=ts) (rows:=rAdd rows p t) (Kx h (ht t (List.mem_cons_self ..))) fun x hx=>ht x (List.mem_cons_of_mem _ hx)
/-! vessels told -/
theorem Ky{w:Int}(h:0≤w)(l:List Ev):(cR l).countP (may w)=l.countP (may w):=by
 induction l with
 | nil=>rfl
 | cons e l ih =>
  unfold cR at ih ⊢
  by_cases hk:(dC e || decide (0<e.mode))=true
  ·rw[List.filter_cons_of_pos (p:=fun e=>dC e || decide (0<e.mode)) hk,List.countP_cons,List.countP_cons,ih]
  ·rw[List.filter_cons_of_neg (p:=fun e=>dC e || decide (0<e.mode)) hk,List.countP_cons,ih]
   have:may w e=false:=by
    simp only[Bool.or_eq_true,decide_eq_true_eq,not_or] at hk
    unfold dC at hk
    unfold may
    by_cases ht:e.ab=w
    ·have h1:¬e.kind=3:=fun e3=>hk.1 (by simp[e3];omega)
     have h2:¬e.kind=4:=fun e4=>hk.1 (by simp[e4];omega)
     simp[hk.2,h1,h2]
    ·simp[ht]
   rw[this];rfl
theorem AI{w:Int}(h:0≤w)(v:aM):v.strip.countP (may w)=jC w v:=by
 unfold aM.strip jC
 rw[List.countP_append,Ky h]
 by_cases hh:v.holds=true
 ·rw[if_pos hh]
  by_cases hr:v.runs=true
  ·rw[if_pos hr,List.countP_cons,List.countP_nil]
   by_cases ht:v.ab=w
   ·have:may w ⟨4,v.ab,v.mode⟩=true:=by unfold may;simp[ht]
    rw[this];simp[hr,ht]
   ·have:may w ⟨4,v.ab,v.mode⟩=false:=by unfold may;simp[ht]
    rw[this];simp[hr,ht]
  ·rw[if_neg hr,if_neg (fun g=>hr g.1),List.countP_cons,List.countP_nil]
   have:may w ⟨4, -1,v.mode⟩=false:=by
    unfold may
    have:¬(-1:Int)=w:=by omega
    simp[this]
   rw[this];simp
 ·rw[if_neg hh]
  by_cases hr:v.runs=true
  ·rw[if_pos hr,List.countP_cons,List.countP_nil]
   by_cases ht:v.ab=w
   ·have:may w ⟨4,v.ab,0⟩=true:=by unfold may;simp[ht]
    rw[this];simp[hr,ht]
   ·have:may w ⟨4,v.ab,0⟩=false:=by unfold may;simp[ht]
    rw[this];simp[hr,ht]
  ·rw[if_neg hr,if_neg (fun g=>hr g.1)];simp
theorem Cr(w:Int)(l:List Ev):jC w (aM.new l)=l.countP (may w):=by
 show(if aM.runs (aM.new l)=true∧_ then 1 else 0)+l.countP (may w)=_
 rw[if_neg (fun g=>by have:=g.1;unfold aM.runs aM.new at this;simp at this)];omega
theorem DM{w:Int}(h:0≤w)(v:aM)(l:List Ev):jC w (v.told l)=jC w v+l.countP (may w):=by
 unfold aM.told
 rw[Cr,List.countP_append,AI h]
theorem Mk(w:Int):jC w aM.z=0:=by
 unfold jC
 rw[if_neg (fun g=>by have:=g.1;unfold aM.runs aM.z at this;simp at this)];rfl
theorem uI{v:aM}(h:fm v):∀ e∈v.strip,mJ e:=fun e he=>by
 unfold aM.strip at he
 rcases List.mem_append.1 he with he | he
 ·split at he
  ·rename_i hh
   obtain rfl:=List.mem_singleton.1 he
   intro h0
   have hm:v.mode=2∨v.mode=4∨v.mode=7:=by unfold aM.holds at hh;simp only[Bool.or_eq_true,decide_eq_true_eq] at hh;omega
   by_cases h7:v.mode=7
   ·refine .inl ⟨h7,?_⟩
    have ht:=h.t (.inr (.inr h7))
    have hr:v.runs=true:=by unfold aM.runs;simp[h7,ht]
    show(0:Int)≤(if v.runs=true then v.ab else -1)
    rw[if_pos hr];exact ht
   ·refine .inr ⟨h7,?_⟩
    have hr:¬v.runs=true:=fun g=>by unfold aM.runs at g;simp only[Bool.and_eq_true,Bool.or_eq_true,decide_eq_true_eq] at g;omega
    show(if v.runs=true then v.ab else -1)<0
    rw[if_neg hr];omega
  ·split at he
   ·obtain rfl:=List.mem_singleton.1 he
    intro h0;exact absurd h0 (by show ¬(0:Int)<0;omega)
   ·cases he
 ·exact h.e e (List.mem_filter.1 he).1
theorem uJ{l:List Ev}(h:∀ e∈l,mJ e):fm (aM.new l):=⟨h,fun g=>by
 have:(aM.new l).mode=1:=rfl
 omega⟩
theorem xb{v:aM}{l:List Ev}(h:fm v)(hl:∀ e∈l,mJ e):fm (v.told l):=uJ fun e he=>by
 rcases List.mem_append.1 he with he | he
 ·exact uI h e he
 ·exact hl e he
theorem IS:fm aM.z:=by
 refine⟨fun _ h=>(by cases h),fun g=>?_⟩
 have:aM.z.mode=0:=rfl
 omega
theorem iZ{w:Int}(l:List Int):(aH l).countP (may w)=l.count w:=by
 unfold aH
 rw[List.countP_map]
 unfold List.count
 refine List.countP_congr fun x _=>?_
 show may w ⟨3,x,0⟩=true↔_
 unfold may
 simp
theorem gT(l:List Int):∀ e∈aH l,mJ e:=fun e he=>by
 obtain⟨n, -,rfl⟩:=List.mem_map.1 he
 intro h;exact absurd h (by show ¬(0:Int)<0;omega)
end Go.SLYthlllpngkljgfaaGreat
namespace Go.SLYthlllpngkljgfaaGreat
open Go Go.RowKit
structure IT(s s':Spc)(e:kO)(n:Int):Prop where
 q:∀ w,cY s' w+(if ¬e.cj=true∧w=n then 1 else 0)=cY s w+e.ar.count w
 z:∀ x∈e.ar,0≤x∧cY s x=0
 c:∀ x,e.ar.count x≤1
theorem uK(s:Spc)(w:Int):cY s w≤1:=by
 unfold cY rO
 split
 ·omega
 ·split <;> omega
theorem yA{s:Spc}{w:Int}(h:w<0):cY s w=0:=by unfold cY;rw[xY h];rfl
theorem pZ{e:kO}:¬e.cj=true↔(e.aR=true∨e.ended=true):=by
 unfold kO.cj
 cases e.aR <;> cases e.ended <;> simp
theorem Ml{k:Nat}{s:Spc}(h:gE k s)(hk:k≤1990)(n c:Int):IT s (s.run n c).2.2 (s.run n c).1 n:=by
 obtain⟨-,h1,h2, -,h3,h4, -, -⟩:=h.1.run h.2.2 (n:=n) (c:=c) (by omega) (h.rec hk)
 have hq:∀ w,cY (s.run n c).2.2 w+(if ¬(s.run n c).1.cj=true∧w=n then 1 else 0)=cY s w+(s.run n c).1.ar.count w:=fun w=>by
  have:=h1 w
  by_cases g:(s.run n c).1.cj=true
  ·rw[if_neg (fun x=>x.1 g)]
   rw[if_neg (fun x=>absurd x.1 (fun y=>pZ.2 y g))] at this
   exact this
  ·have g2:=pZ.1 g
   by_cases e:w=n
   ·rw[if_pos ⟨g,e⟩];rw[if_pos ⟨g2,e⟩] at this;exact this
   ·rw[if_neg (fun x=>e x.2)];rw[if_neg (fun x=>e x.2)] at this;exact this
 by_cases he:(s.run n c).2.1=0
 ·have hn:=h3.1 he
  have hn0:¬n<0:=fun g=>by rw[yA g] at hn;omega
  refine⟨hq,fun x hx=>⟨?_,h4 x hx⟩,fun x=>?_⟩
  ·rcases Int.lt_or_le x 0 with g | g
   ·have:=hq x
    rw[yA g,yA g,if_neg (fun y=>by have:=y.2;omega)] at this
    have:=List.count_pos_iff.2 hx
    omega
   ·exact g
  ·by_cases hx:x∈(s.run n c).1.ar
   ·have h5:=h4 x hx
    have:=hq x
    rw[if_neg (fun y=>by rw[y.2] at h5;omega)] at this
    have:=uK (s.run n c).2.2 x
    omega
   ·rw[List.count_eq_zero.2 hx];omega
 ·obtain⟨e1,e2⟩:=h2 he
  refine⟨hq,fun x hx=>?_,fun x=>?_⟩
  ·rw[e2] at hx;cases hx
  ·rw[e2];exact Nat.zero_le _
theorem Pk.Mm{l:Lib}(h:Pk l){w:Int}(hw:0≤w)(h0:cY l.aO w=0):rowN w l.rows=0∧sumP w l.vs=0:=by
 have:=h.n w hw
 unfold xa at this
 omega
theorem DN{w:Int}{vs:List aM}{i:Nat}{v:aM}(h:vs[i]?=some v):jC w v≤sumP w vs:=by
 have:=gn (w:=w) h aM.z
 rw[Mk] at this
 omega
theorem Kz{v:aM}(h:v.runs=true):1≤jC v.ab v:=by
 unfold jC;rw[if_pos ⟨h,rfl⟩];omega
theorem gU{vs:List aM}{i:Nat}{x:aM}(h:∀ v∈vs,fm v)(hx:fm x):∀ v∈vs.set i x,fm v:=fun v hv=>by
 rcases List.mem_or_eq_of_mem_set hv with hv | rfl
 ·exact h v hv
 ·exact hx
theorem Pk.wD{l:Lib}{ys:List Ev}(hn:∀ w,0≤w→xa w l+ys.countP (may w)=cY l.aO w)(hv:∀ v∈l.vs,fm v)(hw:∀ e∈l.waiting,mJ e)(hy:∀ e∈ys,mJ e)(rl:l.rows.length=l.vs.length)(rg:∀ r∈l.rows, ∀ t∈r,(0:Int)≤t):Pk (l.tell ys):=by
 by_cases h0:ys=[]
 ·subst h0;rw[jq];exact⟨hn,hv,hw,rl,rg⟩
 ·cases hp:l.procs with
  | nil =>
   rw[jd h0 hp]
   refine⟨fun w h=>?_,hv,fun e he=>?_,rl,rg⟩
   ·have:=hn w h
    unfold xa at this ⊢
    simp only[List.countP_append];omega
   ·rcases List.mem_append.1 he with he | he
    ·exact hw e he
    ·exact hy e he
  | cons p r =>
   obtain⟨i,v,rfl,hiv, -⟩:=hY hp
   rw[je h0 hp hiv]
   refine⟨fun w h=>?_,gU hv (xb (hv v (List.mem_of_getElem? hiv)) hy),hw,by show _=(l.vs.set i _).length;rw[List.length_set];exact rl,rg⟩
   have h1:=gn (w:=w) hiv (v.told ys)
   rw[DM h] at h1
   have:=hn w h
   unfold xa at this ⊢
   simp only at this ⊢
   omega
theorem Pk.set{l:Lib}(h:Pk l){i:Nat}{v x:aM}{b:Bool}(hv:l.vs[i]?=some v)(hx:fm x)(hn:∀ w,0≤w→jC w x=jC w v):Pk ⟨l.aO,l.rows,l.vs.set i x,l.waiting,b⟩:=by
 refine⟨fun w hw=>?_,gU h.v hx,h.w,by show _=(l.vs.set i x).length;rw[List.length_set];exact h.rl,h.rg⟩
 have h1:=gn (w:=w) hv x
 have h2:=h.n w hw
 have h3:=hn w hw
 unfold xa at h2 ⊢
 simp only at h2 ⊢
 omega
theorem Pk.dj{l:Lib}(h:Pk l)(hl:Lk l)(p:Int):Pk (l.dj p).2:=by
 unfold Lib.dj
 cases e:aB l.vs p with
 | none=>exact h
 | some v =>
  simp only
  by_cases hm:v.mode=0
  ·rw[if_pos hm]
   obtain⟨h0, -,hv⟩:=bF e
   have hev:=hl.run hv (by omega) (by omega)
   have hh:∀ w,jC w v=0:=fun w=>by
    unfold jC
    rw[hev,if_neg (fun g=>by have:=g.1;unfold aM.runs at this;simp[hm] at this)];rfl
   refine⟨fun w hw=>?_,gU h.v (uJ fun e he=>?_),fun _ h=>(by cases h),by show _=(l.vs.set _ _).length;rw[List.length_set];exact h.rl,h.rg⟩
   ·have h1:=gn (w:=w) hv (aM.new (⟨1, -1,0⟩::l.waiting))
    have h2:=h.n w hw
    have hmw:may w ⟨1, -1,0⟩=false:=by
     unfold may
     have:¬(-1:Int)=w:=by omega
     simp[this]
    rw[Cr,List.countP_cons,hmw,hh] at h1
    unfold xa at h2 ⊢
    simp only[List.countP_nil] at h1 h2 ⊢
    simp only[Bool.false_eq_true,if_false] at h1
    omega
   ·rcases List.mem_cons.1 he with rfl | he
    ·intro h;exact absurd h (by show ¬(0:Int)<0;omega)
    ·exact h.w e he
  ·rw[if_neg hm];exact h
theorem Pk.cF{l:Lib}(h:Pk l)(p:Int):Pk (l.cF p).2:=by
 cases hh:l.has p with
 | false=>rw[jf hh];exact h
 | true =>
  obtain⟨i,v,rfl,hv, -⟩:=ic hh
  rw[hZ hh hv]
  refine Pk.wD (fun w hw=>?_) (gU h.v IS) h.w (uI (h.v v (List.mem_of_getElem? hv))) (by show _=(l.vs.set i _).length;rw[List.length_set];exact h.rl) h.rg
  have h1:=gn (w:=w) hv aM.z
  have h2:=h.n w hw
  rw[Mk] at h1
  rw[AI hw]
  unfold xa at h2 ⊢
  simp only at h2 ⊢
  omega
theorem Pk.preempt{l:Lib}(h:Pk l)(p:Int):Pk (l.preempt p).2:=by
 cases hh:l.has p with
 | false=>rw[jw hh];exact h
 | true =>
  obtain⟨i,v,rfl,hv, -⟩:=ic hh
  rw[iF hh hv]
  exact h.set hv (xb (h.v v (List.mem_of_getElem? hv)) fun _ h=>(by cases h)) fun w hw=>by rw[DM hw];rfl
end Go.SLYthlllpngkljgfaaGreat
namespace Go.SLYthlllpngkljgfaaGreat
open Go Go.RowKit
section
variable{l:Lib}{i:Nat}{v x:aM}{s':Spc}{e:kO}{n:Int}{b:Bool}
theorem Pk.yB(h:Pk l)(q:IT l.aO s' e n)(hv:l.vs[i]?=some v)(hx:fm x)(hn:∀ w,0≤w→jC w x+(if ¬e.cj=true∧w=n then 1 else 0)=jC w v):Pk ((⟨s',l.rows,l.vs.set i x,l.waiting,b⟩:Lib).tell (aH e.ar)):=by
 refine Pk.wD (fun w hw=>?_) (gU h.v hx) h.w (gT _) (by show _=(l.vs.set i x).length;rw[List.length_set];exact h.rl) h.rg
 have h1:=gn (w:=w) hv x
 have h2:=h.n w hw
 have h3:=hn w hw
 have h4:=q.q w
 rw[iZ]
 unfold xa at h2 ⊢
 simp only at h2 ⊢
 omega
theorem Pk.KX(h:Pk l)(q:IT l.aO s' e n):(∀ y∈e.ar,rowN y l.rows=0):=fun y hy=>(h.Mm (q.z y hy).1 (q.z y hy).2).1
theorem Pk.Cs(h:Pk l)(q:IT l.aO s' e n)(hv:l.vs[i]?=some v)(hx:fm x)(hn:∀ w,0≤w→jC w x+(if ¬e.cj=true∧w=n then 1 else 0)=jC w v):Pk ⟨s',dU l.rows (i:Int) e.ar,l.vs.set i x,l.waiting,b⟩:=by
 have hil:=(List.getElem?_eq_some_iff.1 hv).1
 refine⟨fun w hw=>?_,gU h.v hx,h.w,by show(dU _ _ _).length=(l.vs.set i x).length;rw[List.length_set,fQ];exact h.rl,mK h.rg fun t ht=>(q.z t ht).1⟩
 have h1:=gn (w:=w) hv x
 have h2:=h.n w hw
 have h3:=hn w hw
 have h4:=q.q w
 have h5:=IQ (i:=i) (by rw[h.rl];exact hil) (h.KX q) q.c w
 unfold xa at h2 ⊢
 simp only at h2 ⊢
 omega
theorem Pk.DO(h:Pk l)(q:IT l.aO s' e n)(hg:e.cj=true)(h0:0≤n)(hv:l.vs[i]?=some v)(hx:fm x)(hn:∀ w,0≤w→jC w x+(if n=w then 1 else 0)=jC w v):Pk ⟨s',dU (dU l.rows (i:Int) e.ar) (i:Int) [n],l.vs.set i x,l.waiting,b⟩:=by
 have hil:=(List.getElem?_eq_some_iff.1 hv).1
 have hr1:i<l.rows.length:=by rw[h.rl];exact hil
 have hA:=IQ (i:=i) hr1 (h.KX q) q.c
 have hn0:=hn n h0
 rw[if_pos rfl] at hn0
 have hpn:=h.n n h0
 have hsl:=DN (w:=n) hv
 have hrn:=uK l.aO n
 have hrow:rowN n l.rows=0∧cY l.aO n=1:=by unfold xa at hpn;omega
 have hwn:e.ar.count n=0:=by
  rw[List.count_eq_zero]
  intro hm
  have:=(q.z n hm).2
  omega
 have hrow2:rowN n (dU l.rows (i:Int) e.ar)=0:=by rw[hA];omega
 refine⟨fun w hw=>?_,gU h.v hx,h.w,by show(dU _ _ _).length=(l.vs.set i x).length;rw[List.length_set,fQ,fQ];exact h.rl,mK (mK h.rg fun t ht=>(q.z t ht).1) fun t ht=>by rw[List.mem_singleton.1 ht];exact h0⟩
 have h1:=gn (w:=w) hv x
 have h2:=h.n w hw
 have h3:=hn w hw
 have h4:=q.q w
 rw[if_neg (fun y=>y.1 hg)] at h4
 have h5:=DL (i:=i) (t:=n) (by rw[fQ];exact hr1) hrow2 w
 have h6:=hA w
 show xa w ⟨s',rAdd (dU l.rows (i:Int) e.ar) (i:Int) n,l.vs.set i x,l.waiting,b⟩=_
 unfold xa at h2 ⊢
 simp only at h2 ⊢
 omega
end
theorem qQ{p:Ev→Bool}{l:List Ev}{x:Ev}{r:List Ev}(h:evWithin l=some (x,r)):l.countP p=r.countP p+(if p x=true then 1 else 0)∧x∈l∧(∀ y∈r,y∈l)∧0<x.mode:=by
 unfold evWithin at h
 split at h
 ·cases h
 ·split at h
  ·cases h
  ·rename_i h0 y e2
   cases h
   have hx:iU x=true:=ud (l:=l) (k:=0) (i:=(idxP iU l 0).toNat) (by omega) e2
   have e:l.take (idxP iU l 0).toNat++x::l.drop ((idxP iU l 0).toNat+1)=l:=by rw[← drop_cons e2,List.take_append_drop]
   have h1:=congrArg (List.countP p) e
   rw[List.countP_append,List.countP_cons] at h1
   refine⟨by rw[List.countP_append];omega,List.mem_of_getElem? e2,fun y hy=>?_,of_decide_eq_true hx⟩
   rcases List.mem_append.1 hy with hy | hy
   ·exact List.mem_of_mem_take hy
   ·exact List.mem_of_mem_drop hy
theorem eZ{v:aM}(h:¬(v.mode=5∨v.mode=6∨v.mode=7)):v.runs=false:=by
 unfold aM.runs
 have h1:¬v.mode=5:=fun e=>h (.inl e)
 have h2:¬v.mode=6:=fun e=>h (.inr (.inl e))
 have h3:¬v.mode=7:=fun e=>h (.inr (.inr e))
 simp[h1,h2,h3]
theorem iI{v:aM}(g:fm v)(h:v.mode=5∨v.mode=6∨v.mode=7):v.runs=true:=by
 have ht:=g.t h
 unfold aM.runs
 rcases h with h | h | h <;> simp[h,ht]
theorem dJ{w:Int}{v:aM}(h:v.runs=false):jC w v=v.evs.countP (may w):=by unfold jC;rw[h];simp
theorem ja{w:Int}{v:aM}(h:v.runs=true):jC w v=(if v.ab=w then 1 else 0)+v.evs.countP (may w):=by unfold jC;rw[h];simp
theorem Pk.enter{l:Lib}(h:Pk l){i:Nat}{v:aM}{m:Int}(hv:l.vs[i]?=some v)(hm:m=5∨m=6∨m=7↔v.mode=5∨v.mode=6∨v.mode=7):Pk (l.enter (i:Int) m):=by
 cases hl:l.locked with
 | true=>rw[pB hl];exact h
 | false =>
  rw[m5 hv hl]
  have hg:=h.v v (List.mem_of_getElem? hv)
  have hg2:fm {v with mode:=m }:=⟨hg.e,fun g=>hg.t (hm.1 g)⟩
  refine h.set (x:={v with mode:=m }) hv hg2 fun w hw=>?_
  by_cases g:v.mode=5∨v.mode=6∨v.mode=7
  ·rw[ja (iI hg g),ja (iI hg2 (hm.2 g))]
  ·rw[dJ (eZ g),dJ (eZ (v:={v with mode:=m }) (fun y=>g (hm.1 y)))]
theorem Pk.leave{l:Lib}(h:Pk l){i:Nat}{v:aM}{m t:Int}(hv:l.vs[i]?=some v)(hg:fm {v with mode:=m,ab:=t })(hn:∀ w,0≤w→jC w {v with mode:=m,ab:=t }=jC w v):Pk (l.leave (i:Int) m t):=by
 rw[iE hv]
 exact h.set hv hg hn
theorem AJ:∀ {rows rows':List (List Int)} {t:Int},rSteal rows=some (t,rows')→(∀ w,rowN w rows'+(if t=w then 1 else 0)=rowN w rows)∧ ∃ r∈rows,t∈r
 | [],_,_,h=>by cases h
 | r::rows,rows',t,h=>by
  unfold rSteal at h
  split at h
  ·rename_i t' e
   cases h
   obtain⟨r0,rfl⟩:∃ r0,r=r0++[t]:=by
    rw[List.getLast?_eq_some_iff] at e
    exact e
   refine⟨fun w=>?_,_,List.mem_cons_self ..,by simp⟩
   show(List.dropLast (r0++[t])).count w+rowN w rows+_=(r0++[t]).count w+rowN w rows
   rw[List.dropLast_concat,List.count_append,List.count_singleton]
   by_cases g:t=w
   ·rw[if_pos g,if_pos (by simpa using g)];omega
   ·rw[if_neg g,if_neg (by simpa using g)];omega
  ·split at h
   ·cases h
   ·rename_i t' r' e
    cases h
    obtain⟨h1,y,hy,hty⟩:=AJ e
    refine⟨fun w=>?_,y,List.mem_cons_of_mem _ hy,hty⟩
    have:=h1 w
    show r.count w+rowN w r'+_=r.count w+rowN w rows
    omega
theorem DP{rows rows':List (List Int)}{p t:Int}(h:rPick rows p=some (t,rows')):(∀ w,rowN w rows'+(if t=w then 1 else 0)=rowN w rows)∧ ∃ r∈rows,t∈r:=by
 unfold rPick at h
 split at h
 ·cases h
 ·rename_i u r e
  cases h
  have hr:=(bF e).2.2
  refine⟨fun w=>?_,_,List.mem_of_getElem? hr,List.mem_cons_self ..⟩
  have h1:=AH (w:=w) hr r
  rw[List.count_cons] at h1
  by_cases g:t=w
  ·rw[if_pos g];rw[if_pos (by simpa using g)] at h1;omega
  ·rw[if_neg g];rw[if_neg (by simpa using g)] at h1;omega
 ·exact AJ h
theorem KA{rows rows':List (List Int)}{p t:Int}(h:rPick rows p=some (t,rows'))(hg:∀ r∈rows, ∀ x∈r,(0:Int)≤x):∀ r∈rows', ∀ x∈r,(0:Int)≤x:=fun r hr x hx=>by
 rcases Int.lt_or_le x 0 with g | g
 ·have h1:=(DP h).1 x
  have h0:rowN x rows=0:=by
   have:∀ l:List (List Int),(∀ r∈l, ∀ y∈r,(0:Int)≤y)→rowN x l=0:=fun l=>by
    induction l with
    | nil=>intro _;rfl
    | cons a l ih =>
     intro hl
     show a.count x+rowN x l=0
     rw[ih fun r hr=>hl r (List.mem_cons_of_mem _ hr),List.count_eq_zero.2 fun hm=>by have:=hl a (List.mem_cons_self ..) x hm;omega]
   exact this rows hg
  have h2:1≤rowN x rows':=by
   have:∀ l:List (List Int),r∈l→1≤rowN x l:=fun l=>by
    induction l with
    | nil=>intro hm;cases hm
    | cons a l ih =>
     intro hm
     show 1≤a.count x+rowN x l
     rcases List.mem_cons.1 hm with rfl | hm
     ·have:=List.count_pos_iff.2 hx;omega
     ·have:=ih hm;omega
   exact this rows' hr
  omega
 ·exact g
end Go.SLYthlllpngkljgfaaGreat
namespace Go.SLYthlllpngkljgfaaGreat
open Go Go.RowKit
theorem Pk.step{k:Nat}{l:Lib}(h:Pk l)(hl:Lk l)(ho:gE k l.aO)(hk:k≤1990)(p c:Int):Pk (l.step p c).2.2:=by
 cases hh:l.has p with
 | false=>rw[pE hh];exact h
 | true =>
  obtain⟨i,v,rfl,hv,h0⟩:=ic hh
  have hvg:=h.v v (List.mem_of_getElem? hv)
  have hil:=(List.getElem?_eq_some_iff.1 hv).1
  by_cases h1:v.mode=1
  ·have hr:v.runs=false:=eZ (by omega)
   rw[sd hh hv h1]
   show Pk (l.upcall (i:Int) c).2
   cases hw:evWithin v.evs with
   | none=>rw[m6 hv (by rw[hw];rfl)];exact h.enter hv (by omega)
   | some z =>
    rw[k5 hv (by rw[hw];rfl)]
    have hE:wE v.evs=z.1:=by unfold wE;rw[hw]
    have hR:wR v.evs=z.2:=by unfold wR;rw[hw]
    rw[hE,hR]
    obtain⟨-,hzm,hzs,hz0⟩:=qQ (p:=may 0) (x:=z.1) (r:=z.2) hw
    have hc:=fun w=>(qQ (p:=may w) (x:=z.1) (r:=z.2) hw).1
    have hxg:fm {v with evs:=z.2 }:=⟨fun e he=>hvg.e e (hzs e he),fun g=>by have:v.mode=5∨v.mode=6∨v.mode=7:=g;omega⟩
    have hxr:aM.runs {v with evs:=z.2 }=false:=hr
    have hpl:∀ w,jC w {v with evs:=z.2 }+(if may w z.1=true then 1 else 0)=jC w v:=fun w=>by
     rw[dJ hr,dJ hxr,hc w]
    have hgz:=hvg.e z.1 hzm hz0
    by_cases hm:z.1.mode=7
    ·have ht:0≤z.1.ab:=by rcases hgz with g | g;exact g.2;exact absurd hm g.1
     have hmay:∀ w,(may w z.1=true)↔z.1.ab=w:=fun w=>by unfold may;simp[hz0]
     have q:=Ml ho hk z.1.ab c
     by_cases hg:(l.aO.run z.1.ab c).1.cj=true
     ·rw[k4 hv hm hg]
      exact h.DO q hg ht hv hxg fun w _=>by
       have:=hpl w
       by_cases e:z.1.ab=w
       ·rw[if_pos e];rw[if_pos ((hmay w).2 e)] at this;exact this
       ·rw[if_neg e];rw[if_neg (fun y=>e ((hmay w).1 y))] at this;exact this
     ·rw[iX hv hm hg]
      exact h.Cs q hv hxg fun w _=>by
       have:=hpl w
       by_cases e:z.1.ab=w
       ·rw[if_pos ⟨hg,e.symm⟩];rw[if_pos ((hmay w).2 e)] at this;exact this
       ·rw[if_neg (fun y=>e y.2.symm)];rw[if_neg (fun y=>e ((hmay w).1 y))] at this;exact this
    ·rw[k0 hv hm]
     refine h.set (x:={v with evs:=z.2 }) hv hxg fun w hw0=>?_
     have:=hpl w
     have ht:z.1.ab<0:=by rcases hgz with g | g;exact absurd g.1 hm;exact g.2
     rw[if_neg (fun y=>by unfold may at y;simp only[Bool.and_eq_true,decide_eq_true_eq] at y;omega)] at this
     exact this
  by_cases h2:v.mode=2
  ·have hr:v.runs=false:=eZ (by omega)
   rw[se hh hv h2]
   cases he:v.evs with
   | nil =>
    rw[k6 hv he]
    exact h.leave hv ⟨hvg.e,fun g=>by have:(3:Int)=5∨(3:Int)=6∨(3:Int)=7:=g;omega⟩ fun w _=>by
     rw[dJ hr,dJ (eZ (v:={v with mode:=3,ab := -1 }) (by show ¬((3:Int)=5∨(3:Int)=6∨(3:Int)=7);omega))]
   | cons e r =>
    have hn:v.holds=true:=by unfold aM.holds;rw[h2];rfl
    have hi1:mr v=1+v.evs.countP iU:=by unfold mr;rw[hn];simp
    obtain⟨-,h3⟩:=hl.one hv (by omega)
    have hem:¬ 0<e.mode:=fun g=>by
     have:iU e=true:=decide_eq_true g
     rw[he,List.countP_cons,this] at hi1
     simp only[if_true] at hi1
     omega
    have hxg:fm {v with evs:=r }:=⟨fun y hy=>hvg.e y (by rw[he];exact List.mem_cons_of_mem _ hy),fun g=>by have:v.mode=5∨v.mode=6∨v.mode=7:=g;omega⟩
    have hxr:aM.runs {v with evs:=r }=false:=hr
    have hpl:∀ w,jC w {v with evs:=r }+(if may w e=true then 1 else 0)=jC w v:=fun w=>by
     rw[dJ hr,dJ hxr,he,List.countP_cons]
    by_cases hrn:dC e=true
    ·rw[m7 hv he hrn]
     have hrn2:=hrn
     unfold dC at hrn2
     simp only[Bool.and_eq_true,Bool.or_eq_true,decide_eq_true_eq] at hrn2
     have hmay:∀ w,(may w e=true)↔e.ab=w:=fun w=>by
      unfold may
      simp only[Bool.and_eq_true,Bool.or_eq_true,decide_eq_true_eq]
      constructor
      ·exact fun g=>g.1
      ·exact fun g=>⟨g,hrn2.2.elim (fun x=>.inl (.inr x)) fun x=>.inr x⟩
     have hvt:=hpl e.ab
     rw[if_pos ((hmay _).2 rfl)] at hvt
     have hpn:=h.n e.ab hrn2.1.1
     have hsl:=DN (w:=e.ab) hv
     have hrd:=uK l.aO e.ab
     have hrow:rowN e.ab l.rows=0:=by unfold xa at hpn;omega
     refine⟨fun w hw=>?_,gU h.v hxg,h.w,by show(dU _ _ _).length=(l.vs.set i _).length;rw[List.length_set,fQ];exact h.rl,mK h.rg fun t ht=>by rw[List.mem_singleton.1 ht];exact hrn2.1.1⟩
     have g1:=gn (w:=w) hv {v with evs:=r }
     have g2:=h.n w hw
     have g3:=hpl w
     have g4:=DL (i:=i) (t:=e.ab) (by rw[h.rl];exact hil) hrow w
     show xa w ⟨l.aO,rAdd l.rows (i:Int) e.ab,l.vs.set i {v with evs:=r },l.waiting,l.locked⟩=_
     unfold xa at g2 ⊢
     simp only at g2 ⊢
     by_cases ht:e.ab=w
     ·rw[if_pos ht] at g4;rw[if_pos ((hmay w).2 ht)] at g3;omega
     ·rw[if_neg ht] at g4;rw[if_neg (fun y=>ht ((hmay w).1 y))] at g3;omega
    ·rw[k7 hv he hrn]
     refine h.set (x:={v with evs:=r }) hv hxg fun w hw0=>?_
     have:=hpl w
     rw[if_neg (fun y=>by
      unfold may at y
      unfold dC at hrn
      simp only[Bool.and_eq_true,Bool.or_eq_true,decide_eq_true_eq] at y hrn
      refine hrn ⟨⟨by omega,by omega⟩,?_⟩
      rcases y.2 with (g | g) | g
      ·exact absurd g hem
      ·exact .inl g
      ·exact .inr g)] at this
     exact this
  have hev:=hl.run hv h1 h2
  by_cases h3:v.mode=3
  ·rw[sf hh hv h3];exact h.enter hv (by omega)
  by_cases h4:v.mode=4
  ·have hr:v.runs=false:=eZ (by omega)
   rw[sh hh hv h4]
   cases hp:rPick l.rows (i:Int) with
   | none =>
    rw[(pC (by rw[hp];rfl)).1]
    exact h.leave hv ⟨hvg.e,fun g=>by have:(8:Int)=5∨(8:Int)=6∨(8:Int)=7:=g;omega⟩ fun w _=>by
     rw[dJ hr,dJ (eZ (v:={v with mode:=8,ab := -1 }) (by show ¬((8:Int)=5∨(8:Int)=6∨(8:Int)=7);omega))]
   | some z =>
    rw[m8 (by rw[hp];rfl),(jh (t:=z.1) (rows':=z.2) hp).1,(jh (t:=z.1) (rows':=z.2) hp).2]
    rw[iE (l:={l with rows:=z.2 }) hv]
    obtain⟨hpn,r0,hr0,ht0⟩:=DP (t:=z.1) (rows':=z.2) hp
    have ht:=h.rg r0 hr0 z.1 ht0
    have hxg:fm {v with mode:=5,ab:=z.1 }:=⟨hvg.e,fun _=>ht⟩
    refine⟨fun w hw=>?_,gU h.v hxg,h.w,by show z.2.length=(l.vs.set i _).length;rw[List.length_set,(wm (t:=z.1) (rows':=z.2) hp).1];exact h.rl,KA (t:=z.1) (rows':=z.2) hp h.rg⟩
    have g1:=gn (w:=w) hv {v with mode:=5,ab:=z.1 }
    have g2:=h.n w hw
    have g3:=hpn w
    rw[dJ hr,ja (iI hxg (.inl rfl))] at g1
    unfold xa at g2 ⊢
    simp only at g1 g2 ⊢
    omega
  by_cases h5:v.mode=5
  ·have hr:v.runs=true:=iI hvg (.inl h5)
   have hpv:∀ w,jC w v=if v.ab=w then 1 else 0:=fun w=>by rw[ja hr,hev];rfl
   have q:=Ml ho hk v.ab c
   rw[sj hh hv h5]
   show Pk (l.gQ (i:Int) c).2
   by_cases hc:l.aO.class v.ab=2
   ·rw[k8 hv hc]
    have hxg:fm {v with mode:=6 }:=⟨hvg.e,fun _=>hvg.t (.inl h5)⟩
    exact h.set (x:={v with mode:=6 }) hv hxg fun w _=>by rw[ja hr,ja (iI hxg (.inr (.inl rfl)))]
   ·by_cases hs:(l.aO.run v.ab c).1.aR=true
    ·rw[m9 hv hc hs]
     have hg:¬(l.aO.run v.ab c).1.cj=true:=pZ.2 (.inl hs)
     refine(show Pk ((⟨(l.aO.run v.ab c).2.2,l.rows,l.vs.set i (aM.new [⟨2,v.ab,0⟩]),l.waiting,l.locked⟩:Lib).tell (aH (l.aO.run v.ab c).1.ar)) from Pk.yB (l:=l) h q hv (x:=aM.new [⟨2,v.ab,0⟩]) (uJ fun e he=>by
      rw[List.mem_singleton.1 he];intro g;exact absurd g (by show ¬(0:Int)<0;omega)) fun w _=>?_)
     have hz:jC w (aM.new [⟨2,v.ab,0⟩])=0:=by
      rw[Cr,List.countP_cons,List.countP_nil]
      have:may w ⟨2,v.ab,0⟩=false:=by unfold may;simp
      rw[this];rfl
     rw[hz,hpv w]
     by_cases e:v.ab=w
     ·rw[if_pos ⟨hg,e.symm⟩,if_pos e]
     ·rw[if_neg (fun y=>e y.2.symm),if_neg e]
    ·by_cases he:(l.aO.run v.ab c).1.ended=true
     ·rw[pD hv hc hs he]
      have hg:¬(l.aO.run v.ab c).1.cj=true:=pZ.2 (.inr he)
      refine(show Pk ((⟨(l.aO.run v.ab c).2.2,l.rows,l.vs.set i {v with mode:=3,ab := -1 },l.waiting,l.locked⟩:Lib).tell (aH (l.aO.run v.ab c).1.ar)) from Pk.yB (l:=l) h q hv (x:={v with mode:=3,ab := -1 }) ⟨hvg.e,fun g=>by have:(3:Int)=5∨(3:Int)=6∨(3:Int)=7:=g;omega⟩ fun w _=>?_)
      have hz:jC w {v with mode:=3,ab := -1 }=0:=by
       rw[dJ (eZ (v:={v with mode:=3,ab := -1 }) (by show ¬((3:Int)=5∨(3:Int)=6∨(3:Int)=7);omega))]
       show v.evs.countP (may w)=0
       rw[hev];rfl
      rw[hz,hpv w]
      by_cases e:v.ab=w
      ·rw[if_pos ⟨hg,e.symm⟩,if_pos e]
      ·rw[if_neg (fun y=>e y.2.symm),if_neg e]
     ·rw[na hv hc hs he]
      have hg:(l.aO.run v.ab c).1.cj=true:=by unfold kO.cj;simp[hs,he]
      have:=Pk.yB h q hv (b:=l.locked) hvg fun w _=>by rw[if_neg (fun y=>y.1 hg)];rfl
      rw[fA hv] at this
      exact this
  by_cases h6:v.mode=6
  ·rw[sk hh hv h6];exact h.enter hv (by omega)
  by_cases h7:v.mode=7
  ·have hr:v.runs=true:=iI hvg (.inr (.inr h7))
   have hpv:∀ w,jC w v=if v.ab=w then 1 else 0:=fun w=>by rw[ja hr,hev];rfl
   have q:=Ml ho hk v.ab c
   have hx3:fm {v with mode:=3,ab := -1 }:=⟨hvg.e,fun g=>by have:(3:Int)=5∨(3:Int)=6∨(3:Int)=7:=g;omega⟩
   have hz:∀ w,jC w {v with mode:=3,ab := -1 }=0:=fun w=>by
    rw[dJ (eZ (v:={v with mode:=3,ab := -1 }) (by show ¬((3:Int)=5∨(3:Int)=6∨(3:Int)=7);omega))]
    show v.evs.countP (may w)=0
    rw[hev];rfl
   rw[sm hh hv h7]
   show Pk (l.inside (i:Int) c).2
   by_cases hg:(l.aO.run v.ab c).1.cj=true
   ·by_cases hy:(l.aO.run v.ab c).1.yielded=true
    ·rw[iY hv hg hy]
     show Pk (Lib.leave _ _ _ _)
     rw[iE (l:=((l.aK v.ab c).2.fE (i:Int) (l.aO.run v.ab c).1.ar).fE (i:Int) [v.ab]) hv]
     exact h.DO q hg (hvg.t (.inr (.inr h7))) hv hx3 fun w _=>by rw[hz w,hpv w,Nat.zero_add]
    ·rw[nf hv hg hy]
     show Pk (Lib.leave _ _ _ _)
     rw[iE (l:=(l.aK v.ab c).2.fE (i:Int) (l.aO.run v.ab c).1.ar) hv]
     have hx5:fm {v with mode:=5,ab:=v.ab }:=⟨hvg.e,fun _=>hvg.t (.inr (.inr h7))⟩
     exact h.Cs q hv hx5 fun w _=>by
      rw[if_neg (fun y=>y.1 hg),ja hr,ja (iI hx5 (.inl rfl))];rfl
   ·rw[k9 hv hg]
    show Pk (Lib.leave _ _ _ _)
    rw[iE (l:=(l.aK v.ab c).2.fE (i:Int) (l.aO.run v.ab c).1.ar) hv]
    exact h.Cs q hv hx3 fun w _=>by
     rw[hz w,hpv w]
     by_cases e:v.ab=w
     ·rw[if_pos ⟨hg,e.symm⟩,if_pos e]
     ·rw[if_neg (fun y=>e y.2.symm),if_neg e]
  by_cases h8:v.mode=8
  ·cases he:ib l.rows with
   | true=>rw[pF hh hv h8 he];exact h
   | false =>
    rw[pG hh hv h8 he]
    have hx3:fm {v with mode:=3 }:=⟨hvg.e,fun g=>by have:(3:Int)=5∨(3:Int)=6∨(3:Int)=7:=g;omega⟩
    exact h.set (x:={v with mode:=3 }) hv hx3 fun w _=>by
     rw[dJ (eZ (v:=v) (by omega)),dJ (eZ (v:={v with mode:=3 }) (by show ¬((3:Int)=5∨(3:Int)=6∨(3:Int)=7);omega))]
  ·rw[so hh hv ⟨h1,h2,h3,h4,h5,h6,h7,h8⟩];exact h
theorem Pk.cA{k:Nat}{l:Lib}(h:Pk l)(ho:gE k l.aO):Pk l.cA:=by
 obtain⟨-,h1, -, -, -, -, -⟩:=ho.1.wa ho.2.2
 refine Pk.wD (fun w hw=>?_) h.v h.w (gT _) h.rl h.rg
 rw[iZ]
 have h2:=h.n w hw
 have h3:=h1 w
 show xa w l+_=cY l.aO.tick.2 w
 rw[h3,h2];rfl
theorem Pk.fH{k:Nat}{l:Lib}(h:Pk l)(ho:gE k l.aO)(c:Int):Pk (l.fH c):=by
 obtain⟨-,h1, -, -,hs,he, -, -⟩:=ho.1.nz ho.2.2 (c:=c)
 refine Pk.wD (fun w hw=>?_) h.v h.w (gT _) h.rl h.rg
 rw[iZ]
 have h2:=h.n w hw
 have h3:=h1 w
 rw[hs,he] at h3
 simp only[Bool.false_eq_true,or_self,if_false,Nat.add_zero] at h3
 show xa w l+_=cY (l.aO.done c).2.2 w
 rw[h3,h2]
theorem Pk.new(s:Spc)(p:Int):Pk (Lib.new s p):=by
 have hz:∀ (w:Int) n,sumP w (List.replicate n aM.z)=0:=fun w n=>by
  induction n with
  | zero=>rfl
  | succ n ih=>rw[List.replicate_succ,sumP,ih,Mk]
 have hr:∀ (w:Int) n,rowN w (List.replicate n [])=0:=fun w n=>by
  induction n with
  | zero=>rfl
  | succ n ih=>rw[List.replicate_succ,rowN,ih];rfl
 refine⟨fun w hw=>?_,fun v hv=>by rw[(List.mem_replicate.1 hv).2];exact IS,gT _,by show(List.replicate _ _).length=(List.replicate _ _).length;rw[List.length_replicate,List.length_replicate],fun r hr t ht=>by rw[(List.mem_replicate.1 hr).2] at ht;cases ht⟩
 show rowN w (List.replicate _ _)+sumP w (List.replicate _ _)+(aH s.ready).countP (may w)=cY s w
 rw[hz,hr,iZ,jP];omega
end Go.SLYthlllpngkljgfaaGreat
namespace Go.SLYthlllpngkljgfaaGreat
open Go Go.RowKit
def O7(f:Int→Nat):List Int:=(List.range 16).map fun(w:Nat)=>((f (w:Int):Nat):Int)
def Mn(v:aM)(w:Int):Nat:=if v.runs=true∧v.ab=w then 1 else 0
def Mp(l:Lib):Nat→Int→Nat
 | 0,_=>0
 | q+1,w=>Mp l q w+Mn (nE l (q:Int)) w+(l.rows.getD q []).count w
theorem ff.fH{k:Nat}{l:Lib}(h:ff k l)(c:Int):ff (k+1) (l.fH c):=by
 have h0:aC 0 0 l ({l with aO:=(l.aO.done c).2.2 }:Lib):=⟨rfl,rfl,Nat.le_refl _,fun _ h=>h⟩
 have h1:=od l.aO c
 have h2:=gm (l.aO.done c).1.ar
 refine h.of ((h0.trans (aC.tell _ _)).le (by omega) (by omega)) ?_
 show gE (k+2) (Lib.tell _ _).aO
 rw[(dA _ _).1.aO]
 exact h.sp.done c
theorem Lk.fH{l:Lib}(h:Lk l)(c:Int):Lk (l.fH c):=Lk.tell h.same (fR _)
end Go.SLYthlllpngkljgfaaGreat
namespace Go.SLYthlllpngkljgfaaGreat
open Go Go.RowKit
theorem AK{w:Int}(hw:0≤w)(l:List Ev):Dm l w=l.countP (may w):=by
 unfold Dm
 rw[← List.countP_eq_length_filter]
 refine List.countP_congr fun e _=>?_
 unfold HF may dC
 simp only[Bool.and_eq_true,Bool.or_eq_true,decide_eq_true_eq]
 constructor
 ·rintro⟨h,(⟨-,g⟩ | g)⟩
  ·exact⟨h,g.elim (fun x=>.inl (.inr x)) .inr⟩
  ·exact⟨h,.inl (.inl g)⟩
 ·rintro⟨h,g⟩
  refine⟨h,?_⟩
  by_cases hm:0<e.mode
  ·exact .inr hm
  ·exact .inl ⟨⟨by omega,by omega⟩,by omega⟩
theorem AL{t:Int}:∀ {rows:List (List Int)},rowN t rows≤1→(if ye rows t=true then 1 else 0)=rowN t rows
 | [],_=>rfl
 | r::rows,h=>by
  unfold rowN at h ⊢
  have h2:=AL (t:=t) (rows:=rows) (by omega)
  unfold ye at h2 ⊢
  rw[List.any_cons]
  by_cases hc:t∈r
  ·have:=List.count_pos_iff.2 hc
   rw[List.contains_eq_mem,decide_eq_true hc]
   simp only[Bool.true_or,if_true]
   omega
  ·have hz:=List.count_eq_zero.2 hc
   rw[List.contains_eq_mem,decide_eq_false hc,hz,Bool.false_or,h2,Nat.zero_add]
theorem uL{l:Lib}{w:Int}(hw:0≤w)(p:Int):(kZ l w p).length=jC w (nE l p):=by
 unfold kZ jC
 rw[List.length_append,List.length_replicate,AK hw]
 split <;> simp
theorem xd{l:Lib}{w:Int}(hw:0≤w)(hz:∀ v∈l.vs,v.mode=0→jC w v=0):∀ (k:Nat),k≤l.vs.length→((procsFrom (l.vs.drop (l.vs.length-k)) (l.vs.length-k)).flatMap (kZ l w)).length=sumP w (l.vs.drop (l.vs.length-k))
 | 0,_=>by rw[Nat.sub_zero,List.drop_length];rfl
 | k+1,hk=>by
  obtain⟨v,hv⟩:=ak (show l.vs.length - (k+1)<l.vs.length by omega)
  have ih:=xd hw hz k (by omega)
  have e:l.vs.length-k=l.vs.length-(k+1)+1:=by omega
  rw[e] at ih
  rw[drop_cons hv,procsFrom]
  show _=jC w v+sumP w _
  by_cases hm:v.mode=0
  ·rw[if_pos hm,ih,hz v (List.mem_of_getElem? hv) hm];omega
  ·rw[if_neg hm,List.flatMap_cons,List.length_append,ih,uL hw]
   have:nE l ((l.vs.length-(k+1):Nat):Int)=v:=z6 (by unfold Lib.has;rw[bb,hv];simp[hm]) hv
   rw[this]
theorem qR{l:Lib}(h:Pk l)(hl:Lk l){w:Int}(hw:0≤w):(placeOf l w).length=cY l.aO w:=by
 have hn:=h.n w hw
 have hr:=uK l.aO w
 have hs:=xd (l:=l) hw (fun v hv hm=>by
  obtain⟨i,hi⟩:=List.mem_iff_getElem?.1 hv
  rw[dJ (eZ (v:=v) (by omega)),hl.run hi (by omega) (by omega)];rfl) l.vs.length (Nat.le_refl _)
 rw[Nat.sub_self,List.drop_zero] at hs
 unfold placeOf
 rw[List.length_append,List.length_append,List.length_replicate,AK hw,ko]
 unfold xa at hn
 have hrow:=AL (t:=w) (rows:=l.rows) (by omega)
 have hw2:(if ye l.rows w=true then [(⟨2,(whereFrom w l.rows 0).1⟩:Mt)] else []).length=rowN w l.rows:=by
  rw[← hrow];split <;> rfl
 rw[hw2]
 show(l.procs.flatMap (kZ l w)).length+_+_=_
 rw[show l.procs=procsFrom l.vs 0 from rfl,hs]
 omega
/-! the whole system -/
structure DQ(i:Nat)(s:Sy):Prop where
 b:wF i s
 k:∀ l∈s.k.libs,Lk l
 p:∀ l∈s.k.libs,Pk l
theorem uM{Q:Lib→Prop}{ls:List Lib}{j:Nat}{x:Lib}(h:∀ l∈ls,Q l)(hx:Q x):∀ l∈ls.set j x,Q l:=fun l hl=>by
 rcases List.mem_or_eq_of_mem_set hl with hl | rfl
 ·exact h l hl
 ·exact hx
theorem FE{Q:Lib→Prop}{m:Nat}{k:Krn}(hk:qZ m k)(p c:Int)(h:∀ l∈k.libs,Q l)(hs:∀ l∈k.libs, ∀ p,Q (l.step p c).2.2):∀ l∈(k.step p c).2.libs,Q l:=by
 by_cases e:du k p=0
 ·obtain⟨i,j,l,rfl,ho,hl, -⟩:=dy hk e
  rw[iG ho hl]
  exact uM h (hs l (List.mem_of_getElem? hl) _)
 ·rw[gF e];exact h
theorem IU{Q:Lib→Prop}{m:Nat}{k:Krn}(hk:qZ m k)(p:Int)(h:∀ l∈k.libs,Q l)(hs:∀ l∈k.libs, ∀ p,Q (l.preempt p).2):∀ l∈(k.preempt p).2.libs,Q l:=by
 by_cases e:du k p=0
 ·obtain⟨i,j,l,rfl,ho,hl, -⟩:=dy hk e
  rw[pM ho hl]
  exact uM h (hs l (List.mem_of_getElem? hl) _)
 ·rw[my e];exact h
theorem FF{Q:Lib→Prop}{k:Krn}(n c:Int)(h:∀ l∈k.libs,Q l)(hs:∀ l∈k.libs,Q (l.fH c)):∀ l∈(k.done n c).2.libs,Q l:=by
 unfold Krn.done
 cases e:aB k.libs n with
 | none=>exact h
 | some l=>exact uM h (hs l (List.mem_of_getElem? (bF e).2.2))
theorem DQ.do{i:Nat}{s:Sy}(h:DQ i s)(hi:i≤400)(x:uf):DQ (i+1) (s.do x).2:=by
 have hb:=h.b.do hi x
 have ho:∀ l∈s.k.libs,gE (i+2) l.aO:=fun l hl=>(h.b.k.gY l hl).sp
 have key:(∀ l∈(s.do x).2.k.libs,Lk l∧Pk l):=by
  have hq:∀ l∈s.k.libs,Lk l∧Pk l:=fun l hl=>⟨h.k l hl,h.p l hl⟩
  unfold Sy.do
  split
  ·exact FE (Q:=fun l=>Lk l∧Pk l) h.b.k.ok x.a x.b hq fun l hl p=>⟨(h.k l hl).step p x.b,(h.p l hl).step (h.k l hl) (ho l hl) (by omega) p x.b⟩
  ·split
   ·intro l hl
    obtain⟨y,hy,rfl⟩:=List.mem_map.1 hl
    exact⟨(h.k y hy).cA,(h.p y hy).cA (ho y hy)⟩
   ·split
    ·exact FF (Q:=fun l=>Lk l∧Pk l) x.a x.b hq fun l hl=>⟨(h.k l hl).fH _,(h.p l hl).fH (ho l hl) _⟩
    ·split
     ·exact IU (Q:=fun l=>Lk l∧Pk l) h.b.k.ok x.a hq fun l hl p=>⟨(h.k l hl).preempt p,(h.p l hl).preempt p⟩
     ·split
      ·exact hq
      ·split
       ·exact ng (Q:=fun l=>Lk l∧Pk l) (fun l p g=>⟨g.1.dj p,g.2.dj g.1 p⟩) (fun l p g=>⟨g.1.cF p,g.2.cF p⟩) _ _ hq
       ·exact hq
 exact⟨hb,fun l hl=>(key l hl).1,fun l hl=>(key l hl).2⟩
theorem DQ.new{procs:Int}{ps:List fM}(h:ec procs ps=0)(hw:∀ p∈ps, ∀ f∈p.funcs, ∀ i∈f,fL i.n):DQ 0 (Sy.new procs ps):=by
 have key:∀ l∈(Sy.new procs ps).k.libs,Lk l∧Pk l:=ng (Q:=fun l=>Lk l∧Pk l) (fun l p g=>⟨g.1.dj p,g.2.dj g.1 p⟩) (fun l p g=>⟨g.1.cF p,g.2.cF p⟩) _ _ fun l hl=>by
  obtain⟨p, -,rfl⟩:=List.mem_map.1 hl
  exact⟨Lk.new _ _,Pk.new _ _⟩
 exact⟨wF.new h hw,fun l hl=>(key l hl).1,fun l hl=>(key l hl).2⟩
theorem AM{l:Lib}(h:Pk l)(hl:Lk l):∀ n,rightIn l n=true
 | 0=>rfl
 | n+1=>by
  rw[rightIn,AM h hl n,Bool.true_and,qR h hl (by omega)]
  refine decide_eq_true ?_
  by_cases hr:(n:Int)∈l.aO.ready
  ·rw[if_pos (by rw[List.contains_eq_mem];exact decide_eq_true hr)];exact mem_ready.1 hr
  ·rw[if_neg (by rw[List.contains_eq_mem,decide_eq_false hr];simp)];exact qF.1 hr
theorem AN{k:Krn}(h:∀ l∈k.libs,Pk l)(hl:∀ l∈k.libs,Lk l):∀ n,n≤k.libs.length→sa k n=true
 | 0,_=>rfl
 | n+1,hn=>by
  obtain⟨l,hln⟩:=ak (show n<k.libs.length by omega)
  rw[sa,AN h hl n (by omega),bA hln,AM (h l (List.mem_of_getElem? hln)) (hl l (List.mem_of_getElem? hln))];rfl
theorem rF{n:Int}:∀ {o:List Int} {k i:Nat},o[i]?=some n→((k+i:Nat):Int)∈posFrom n o k
 | [],_,_,h=>by simp at h
 | x::o,k,i,h=>by
  unfold posFrom
  cases i with
  | zero =>
   obtain rfl:x=n:=by simpa using h
   rw[if_pos rfl];exact List.mem_cons_self ..
  | succ i =>
   have:=rF (o:=o) (k:=k+1) (i:=i) (by simpa using h)
   rw[show k+1+i=k+(i+1) by omega] at this
   split
   ·exact List.mem_cons_of_mem _ this
   ·exact this
theorem IV{k:Krn}(ha:gR k){p:Nat}(hp:p<k.owner.length)(hov:∀ v∈k.owner,v = -1∨(0≤v∧v<(k.libs.length:Int))):∀ n,n≤k.libs.length→Dn k p n=true
 | 0,_=>rfl
 | n+1,hn=>by
  obtain⟨l,hln⟩:=ak (show n<k.libs.length by omega)
  obtain⟨o,hop⟩:=ak hp
  rw[Dn,IV ha hp hov n (by omega),bA hln,Bool.true_and]
  refine decide_eq_true ?_
  have hm:l.procs.contains (p:Int)=decide (o=(n:Int)):=by
   rw[List.contains_eq_mem,ha.procs hln]
   refine decide_eq_decide.2 ⟨fun h=>?_,fun h=>?_⟩
   ·obtain⟨i,hi,hi2⟩:=yj h
    have:i=p:=by omega
    subst this
    rw[hop] at hi2
    exact Option.some.inj hi2
   ·have:=rF (k:=0) (show k.owner[p]?=some (n:Int) by rw[hop,h])
    rwa [Nat.zero_add] at this
  rw[hm]
  rcases hov o (List.mem_of_getElem? hop) with h1 | h1
  ·rw[ta (.inr (by unfold CQ;rw[Int.toNat_natCast,bA hop,h1]))]
   rw[decide_eq_false (by omega)];rfl
  ·rw[qm hop (by omega)]
   simp only[Bool.true_and]
   exact decide_eq_decide.2 ⟨fun h=>h.symm,fun h=>h.symm⟩
theorem IW{k:Krn}(ha:gR k)(hov:∀ v∈k.owner,v = -1∨(0≤v∧v<(k.libs.length:Int))):∀ p,p≤k.owner.length→Dp k p=true
 | 0,_=>rfl
 | p+1,hp=>by rw[Dp,IW ha hov p (by omega),IV ha (by omega) hov _ (Nat.le_refl _)];rfl
theorem DQ.right{i:Nat}{s:Sy}(h:DQ i s):z7 s.k=true:=by
 unfold z7 HH
 rw[AN h.p h.k _ (Nat.le_refl _),IW h.b.k.ag h.b.k.own _ (Nat.le_refl _)];rfl
end Go.SLYthlllpngkljgfaaGreat
namespace Go.SLYthlllpngkljgfaaGreat
open Go Go.RowKit
theorem KB{l:Lib}{p:Int}(h:l.has p=true):∃ (i:Nat) (v:aM),p=(i:Int)∧l.vs[i]?=some v:=by
 obtain⟨i,v,rfl,hv⟩:=mU (s8 h)
 exact⟨i,v,rfl,hv⟩
theorem Ct{l:Lib}(hP:Pk l){p c:Int}(hc:(l.step p c).1.aK=true):∃ (i:Nat) (v:aM),p=(i:Int)∧l.vs[i]?=some v∧l.has p=true∧0≤(l.step p c).1.slot∧1≤jC (l.step p c).1.slot v:=by
 unfold Lib.step at hc ⊢
 by_cases hh:l.has p=true
 ·rw[if_pos hh] at hc ⊢
  obtain⟨i,v,rfl,hv⟩:=KB hh
  have hvv:l.v (i:Int)=v:=eR hv
  have hg:=hP.v v (List.mem_of_getElem? hv)
  rw[hvv] at hc ⊢
  have run:∀ {d:gj×Lib},d.1.slot=v.ab→(v.mode=5∨v.mode=6∨v.mode=7)→0≤d.1.slot∧1≤jC d.1.slot v:=fun {d} h1 h2=>by
   rw[h1]
   exact⟨hg.t h2,Kz (iI hg h2)⟩
  refine⟨i,v,rfl,hv,hh,?_⟩
  by_cases h1:v.mode=1
  ·simp only[h1,if_true] at hc ⊢
   unfold Lib.upcall at hc ⊢
   rw[hvv] at hc ⊢
   cases he:evWithin v.evs with
   | none=>rw[he] at hc;cases hc
   | some x =>
    obtain⟨x,r⟩:=x
    rw[he] at hc
    simp only at hc ⊢
    have hw:=qQ (p:=may x.ab) he
    have hgx:=hg.e x hw.2.1
    unfold Lib.recover at hc ⊢
    by_cases hm:x.mode=7
    ·simp only[hm,if_true]
     show 0≤x.ab∧1≤jC x.ab v
     have h0:0≤x.ab:=by
      rcases hgx (by omega) with h | h
      ·exact h.2
      ·exact absurd hm h.1
     refine⟨h0,?_⟩
     have:may x.ab x=true:=by unfold may;simp[hm]
     rw[if_pos this] at hw
     unfold jC
     omega
    ·simp only[hm,if_false] at hc
     cases hc
  ·simp only[h1,if_false] at hc ⊢
   by_cases h2:v.mode=2
   ·simp only[h2,if_true] at hc;cases hc
   ·simp only[h2,if_false] at hc ⊢
    by_cases h3:v.mode=3
    ·simp only[h3,if_true] at hc;cases hc
    ·simp only[h3,if_false] at hc ⊢
     by_cases h4:v.mode=4
     ·simp only[h4,if_true] at hc;cases hc
     ·simp only[h4,if_false] at hc ⊢
      by_cases h5:v.mode=5
      ·simp only[h5,if_true] at hc ⊢
       refine run ?_ (.inl h5)
       unfold Lib.gQ at hc ⊢
       rw[hvv] at hc ⊢
       simp only at hc ⊢
       split at hc
       ·cases hc
       ·rename_i hcl
        rw[if_neg hcl];rfl
      ·simp only[h5,if_false] at hc ⊢
       by_cases h6:v.mode=6
       ·simp only[h6,if_true] at hc;cases hc
       ·simp only[h6,if_false] at hc ⊢
        by_cases h7:v.mode=7
        ·simp only[h7,if_true] at hc ⊢
         refine run ?_ (.inr (.inr h7))
         unfold Lib.inside
         rw[hvv];rfl
        ·simp only[h7,if_false] at hc
         by_cases h8:v.mode=8
         ·simp only[h8,if_true] at hc;cases hc
         ·simp only[h8,if_false] at hc;cases hc
 ·rw[if_neg hh] at hc;cases hc
theorem vn{vs:List aM}:∀ {k i:Nat} {v:aM},vs[i]?=some v→v.mode≠0→((k+i:Nat):Int)∈procsFrom vs k:=by
 induction vs with
 | nil=>intro k i v h;simp at h
 | cons x vs ih =>
  intro k i v h hm
  unfold procsFrom
  cases i with
  | zero =>
   obtain rfl:x=v:=by simpa using h
   rw[if_neg hm];exact List.mem_cons_self ..
  | succ i =>
   have:=ih (k:=k+1) (i:=i) (by simpa using h) hm
   rw[show k+1+i=k+(i+1) by omega] at this
   split
   ·exact this
   ·exact List.mem_cons_of_mem _ this
theorem uN{l:Lib}{w p:Int}:∀ q∈kZ l w p,q.at_=p∧(q.kind=1∨q.kind=3):=fun q hq=>by
 unfold kZ at hq
 rcases List.mem_append.1 hq with h | h
 ·split at h
  ·obtain rfl:=List.mem_singleton.1 h;exact⟨rfl,.inl rfl⟩
  ·cases h
 ·obtain rfl:=(List.mem_replicate.1 h).2;exact⟨rfl,.inr rfl⟩
theorem FG{l:Lib}(hP:Pk l)(hK:Lk l)(ho:l.aO.aF.length=16){p c:Int}(hc:(l.step p c).1.aK=true):∃ (w:Nat) (q:Mt),(l.step p c).1.slot=(w:Int)∧w<16∧placeOf l (w:Int)=[q]∧q.at_=p∧(q.kind=1∨q.kind=3):=by
 obtain⟨i,v,rfl,hv,hh,h0,hpl⟩:=Ct hP hc
 obtain⟨w,hw⟩:∃ w:Nat,(l.step (i:Int) c).1.slot=(w:Int):=⟨((l.step (i:Int) c).1.slot).toNat,by omega⟩
 rw[hw] at hpl
 have hlen:=qR hP hK (w:=(w:Int)) (by omega)
 have hr:=uK l.aO (w:Int)
 have hat:=uL (l:=l) (w:=(w:Int)) (by omega) (i:Int)
 rw[z6 hh hv] at hat
 have hmode:v.mode≠0:=by
  unfold Lib.has at hh
  rw[bb,hv] at hh
  simpa using hh
 have hin:(i:Int)∈l.procs:=by
  have:=vn (k:=0) hv hmode
  rwa [Nat.zero_add] at this
 obtain⟨q,hq⟩:∃ q,q∈kZ l (w:Int) (i:Int):=by
  cases e:kZ l (w:Int) (i:Int) with
  | nil=>rw[e] at hat;simp only[List.length_nil] at hat;omega
  | cons q _=>exact⟨q,List.mem_cons_self ..⟩
 have hmem:q∈placeOf l (w:Int):=by
  unfold placeOf
  exact List.mem_append_left _ (List.mem_append_left _ (List.mem_flatMap.2 ⟨_,hin,hq⟩))
 have h1:placeOf l (w:Int)=[q]:=by
  cases e:placeOf l (w:Int) with
  | nil=>rw[e] at hmem;cases hmem
  | cons a t =>
   rw[e] at hlen hmem
   simp only[List.length_cons] at hlen
   have:t=[]:=List.eq_nil_of_length_eq_zero (by omega)
   subst this
   obtain rfl:=List.mem_singleton.1 hmem
   rfl
 refine⟨w,q,hw,?_,h1,(uN q hq).1,(uN q hq).2⟩
 rw[h1] at hlen
 have hm:cY l.aO (w:Int)=1:=hlen.symm
 rcases Nat.lt_or_ge w 16 with g | g
 ·exact g
 ·have:l.aO.at (w:Int)=none:=by
   unfold Spc.at
   rw[bb,List.getElem?_eq_none_iff.2 (by omega)];rfl
  unfold cY at hm
  rw[this] at hm
  cases hm
end Go.SLYthlllpngkljgfaaGreat
namespace Go.SLYthlllpngkljgfaaGreat
open Go Go.RowKit
def O8:Sy:=⟨N5,[0,0],0,[]⟩
theorem DQ.ke{i:Nat}{s:Sy}(h:DQ i s)(x:uf):(s.do x).2.k.libs.length=s.k.libs.length:=Kv h.b.k.inv x
end Go.SLYthlllpngkljgfaaGreat
namespace Go.SLYthlllpngkljgfaaGreat
open Go Go.RowKit Go.Proofs Go.Proofs.Tryz
attribute [local irreducible] aq aS bc bx bC Y
end Go.SLYthlllpngkljgfaaGreat
