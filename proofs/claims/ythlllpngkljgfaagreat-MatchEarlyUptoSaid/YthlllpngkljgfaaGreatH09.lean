/- Walks of functions, and what they compute. Conditions: none, this text proves no statement. -/
import Derived.Test.YthlllpngkljgfaaGreatH07
import Derived.Test.YthlllpngkljgfaaGreatProg
import Derived.Test.YthlllpngkljgfaaGreatH08
import Derived.Test.YthlllpngkljgfaaGreatH03
import Derived.KernelRfl
import Derived.Test.YthlllpngkljgfaaGreatH04
import Derived.MapKept
import Derived.Laws.NewFold
import Derived.Test.YthlllpngkljgfaaGreatH06
import Derived.Shelf.Sort.Plain
import Derived.Shelf.Slices.In.SortNone
import Derived.Lib.SortBridge
set_option maxRecDepth 20000
set_option maxHeartbeats 4000000
namespace Go.SLYthlllpngkljgfaaGreat
open Go Go.RowKit Go.Proofs Go.Proofs.Tryz
theorem Iu{W:World}{b:Nat}{f:iP}{v:Value}{m:List Int}{i:Ins}(hI:nw i)(hF:CX f)(hl:m.length≤1000000):Em Tryz.prog W 230 [ptr b,.agg (dH i).toArray] [arr b 0 (vK f v),sl cO 1 v m] Unit (fun _=>doEnd 308 (lN f m i)) (fun _=>True) (fun _=>NA b v (lN f m i)):=by
 refine Em.intro (N:=127) func230 rfl ntmps230 rfl fun F=>?_
 show aq _ _ _ _ _ _ [arr b 0 (vK f v),sl cO 1 v m,F]
 have hia:=hI.a
 have hib:=hI.b
 have hic:=hI.c
 have hin:=hI.n
 have hpc:=hF.pc
 refine J 2 ?_
 refine .aj rfl (af.box rfl rfl rfl) ?_
 rintro _ _ ⟨b3,rfl,rfl⟩
 refine .mem (H':=[arr b3 0 (dH i),arr b 0 (vK f v),sl cO 1 v m,F]) (fun w s=>s) ?_
 refine J 9 ?_
 refine .p (.add rfl rfl (by omega)) ?_
 refine J 3 ?_
 refine .FT (X:=List Int×Int×List Int) [4,5,6,7,8,9,10,11,18,19,20,21,22,23,24,25,26,27,28,29,30,31,32,33,34,35,36,37,38,39,40,41,42,43,44,45,46,47,48,49,50,51,52,53,54,55,56,57,58,59,60,61,62,63,64,65,66,67,68,69,70,71,72,73,74,75,76,77,78,79,80,81,82,83,84,85,86,87,88,89,90,91,92,93,94,95,96,97,98,99,100,101,102,103,104,105,106,107,108,109,110,111,112,113,114,115,116,117,118,119,120,121] (fun z=>lN f m i=some (⟨f.fn,z.2.1,z.1⟩,z.2.2)) (fun z=>[(4,some (.int .i64 z.2.1))]) (fun z=>[arr b 0 (vK ⟨f.fn,f.pc,z.1⟩ v),sl cO 1 v z.2.2,F]) ?_ ?_
 ·refine JD 9 (fun h48=>?_) fun h48=>?_
  ·refine J 3 ?_
   refine .p (.gW underlying110 underlying3 rfl (by have:=hI.j (.inl h48);omega)) ?_
   refine J 3 ?_
   refine .nj (f.aI,i.n,m) .auto ?_ ?_ ?_
   ·unfold lN;rw[if_pos h48]
   ·exact⟨rfl,trivial⟩
   ·exact fun w s=>ax.kept .auto w s
  ·refine JD 8 (fun h55=>?_) fun h55=>?_
   ·refine J 5 ?_
    refine .c call250 rfl (fS hI.a) fun _ _=>?_
    refine J 1 ?_
    refine .p (.ld rfl (Cell.a (l7 (by omega)))) ?_
    refine JD 3 (fun h65=>?_) fun h65=>?_
    ·refine J 3 ?_
     refine .p (.gW underlying110 underlying3 rfl (by have:=hI.j (.inr h55);omega)) ?_
     refine J 3 ?_
     refine .nj (f.aI,i.n,m) .auto ?_ ?_ ?_
     ·unfold lN;rw[if_neg h48,if_pos h55,if_pos (show f.tg i.a=0 from h65)]
     ·exact⟨rfl,trivial⟩
     ·exact fun w s=>ax.kept .auto w s
    ·refine J 2 ?_
     refine .nj (f.aI,f.pc+1,m) .auto ?_ ?_ ?_
     ·unfold lN;rw[if_neg h48,if_pos h55,if_neg (show ¬f.tg i.a=0 from h65)]
     ·exact⟨rfl,trivial⟩
     ·exact fun w s=>ax.kept .auto w s
   ·refine JD 8 (fun h69=>?_) fun h69=>?_
    ·refine .draw [arr b3 0 (dH i)] [1,1,1,2,0,0,1,3] rfl (by kernel_rfl) ?_
     refine J 3 ?_
     refine .c2 call250 rfl (fS hI.a) fun _ _=>?_
     refine J 3 ?_
     refine .d3 rfl (af.st sizeOf110 rfl rfl rfl (Nat.blt_eq.mpr (by show 2+i.a.toNat<11;omega))) ?_
     rintro _ _ ⟨rfl,rfl⟩
     rw[Bn _ (show i.a.toNat<8 by omega) hF.l]
     refine J 2 ?_
     refine .nj (f.aI.set i.a.toNat i.n,f.pc+1,m) .auto ?_ ?_ ?_
     ·unfold lN;rw[if_neg h48,if_neg h55,if_pos h69];rfl
     ·exact⟨rfl,trivial⟩
     ·exact fun w s=>ax.kept .auto w s
    ·refine JD 8 (fun h80=>?_) fun h80=>?_
     ·refine J 1 ?_
      refine .draw [arr b3 0 (dH i)] [1,1,1,2,0,0,0,3,1,1] rfl (by kernel_rfl) ?_
      refine J 3 ?_
      refine .c2 call250 rfl (fS hI.a) fun _ _=>?_
      refine J 3 ?_
      refine .c call250 rfl (fS hI.b) fun _ _=>?_
      refine J 9 ?_
      refine .p (.ld rfl (Cell.a (l7 (by omega)))) ?_
      refine .MI rfl call251 rfl (oq (f:=f) (m:=m) (at_:=f.aI.getD i.b.toNat 0) (hF.r _).1 hl) .auto (fun _ h=>by split at h <;> cases h) ?_ ?_
      ·rintro⟨⟩ u e -
       have hlt:f.aI.getD i.b.toNat 0<m.length:=Decidable.byContradiction fun hn=>by
        rw[if_neg hn] at e
        cases e
       rw[if_pos hlt] at e
       cases e
       have h0:=(hF.r i.b.toNat).1
       refine J 1 ?_
       refine .p (.ld rfl (Cell.KH Rd.s (getD_some (d:=(0:Int)) (show(f.aI.getD i.b.toNat 0).toNat<m.length by omega)) (by rfl))) ?_
       refine J 1 ?_
       refine .aj rfl (af.st sizeOf110 rfl rfl rfl (Nat.blt_eq.mpr (by show 2+i.a.toNat<11;omega))) ?_
       rintro _ _ ⟨rfl,rfl⟩
       rw[Bn _ (show i.a.toNat<8 by omega) hF.l]
       refine J 2 ?_
       refine .nj (f.aI.set i.a.toNat (m.getD (f.aI.getD i.b.toNat 0).toNat 0),f.pc+1,m) .auto ?_ ?_ ?_
       ·unfold lN;rw[if_neg h48,if_neg h55,if_neg h69,if_pos h80,if_pos (show f.tg i.b<m.length from hlt)];rfl
       ·exact⟨rfl,trivial⟩
       ·exact fun w s=>ax.kept .auto w s
      ·rintro⟨⟩ c e -
       have hge:¬f.aI.getD i.b.toNat 0<m.length:=fun h=>by
        rw[if_pos h] at e
        cases e
       rw[if_neg hge] at e
       cases e
       have hz:lN f m i=none:=by
        unfold lN;rw[if_neg h48,if_neg h55,if_neg h69,if_pos h80,if_neg (show ¬f.tg i.b<m.length from hge)]
       rw[hz]
       refine fun a w ha s=>And.intro ha.defers (Exists.intro () (And.intro ?_ (And.intro trivial (ai .auto s))))
       rfl
     ·refine JD 8 (fun h101=>?_) fun h101=>?_
      ·refine J 1 ?_
       refine .draw [arr b3 0 (dH i)] [1,1,1,2,0,0,0,3,1,1] rfl (by kernel_rfl) ?_
       refine J 3 ?_
       refine .c2 call250 rfl (fS hI.a) fun _ _=>?_
       refine J 3 ?_
       refine .c call250 rfl (fS hI.b) fun _ _=>?_
       refine J 4 ?_
       rcases Nat.lt_or_ge (f.aI.getD i.a.toNat 0).toNat m.length with hlt | hge
       ·have h0:=(hF.r i.a.toNat).1
        refine .draw [arr b 0 (vK f v)] [1,1,1,1,2,0,0,0,1,3] rfl (by kernel_rfl) ?_
        refine J 3 ?_
        refine .p (.ld rfl (Cell.a (l7 (by omega)))) ?_
        refine .c2 call251 rfl (Em.ok (fun _=>.pointer (some ⟨blk v,eg v+(f.aI.getD i.a.toNat 0).toNat * 1,none⟩)) (oq (f:=f) (m:=m) (at_:=f.aI.getD i.a.toNat 0) (hF.r _).1 hl) (fun _=>if_pos (by omega))) fun _ _=>?_
        refine J 2 ?_
        refine .q (.ld rfl (Cell.a (l7 (by omega)))) ?_
        refine J 1 ?_
        refine .d3 rfl (af.eG (x':=f.aI.getD i.b.toNat 0) rfl rfl sizeOf110 rfl (getD_some (d:=(0:Int)) hlt) (by decide) rfl .auto) ?_
        rintro _ _ ⟨rfl,rfl⟩
        refine J 2 ?_
        refine .nj (f.aI,f.pc+1,m.set (f.aI.getD i.a.toNat 0).toNat (f.aI.getD i.b.toNat 0)) .auto ?_ ?_ ?_
        ·unfold lN;rw[if_neg h48,if_neg h55,if_neg h69,if_neg h80,if_pos h101,if_pos (show f.tg i.a<m.length by show f.aI.getD i.a.toNat 0<_;omega)];rfl
        ·exact⟨rfl,trivial⟩
        ·exact fun w s=>ax.kept .auto w s
       ·have h0:=(hF.r i.a.toNat).1
        refine .held [arr b 0 (vK f v)] rfl ?_
        refine CW.take 0 rfl (by kernel_rfl) (by kernel_rfl) (by kernel_rfl) (fun _ _ _ _ _ h=>h) rfl Kept.auto (Y.m rfl) ?_
        refine CW.take 1 rfl (by kernel_rfl) (by kernel_rfl) (by kernel_rfl) (fun _ _ _ _ _ h=>h) rfl Kept.auto (Y.m rfl) ?_
        refine CW.take 2 rfl (by kernel_rfl) (by kernel_rfl) (by kernel_rfl) (fun _ _ _ _ _ h=>h) rfl Kept.auto (Y.n rfl) ?_
        refine CW.take 3 rfl (by kernel_rfl) (by kernel_rfl) (by kernel_rfl) (fun _ _ _ _ _ h=>h) rfl Kept.auto (Y.load isAgg110 rfl (Cell.a (l7 (by omega)))) ?_
        refine CW.take 5 rfl (by kernel_rfl) (by kernel_rfl) (by kernel_rfl) (fun _ _ _ _ _ h=>h) rfl Kept.auto (Y.m rfl) ?_
        refine CW.take 6 rfl (by kernel_rfl) (by kernel_rfl) (by kernel_rfl) (fun _ _ _ _ _ h=>h) rfl Kept.auto (Y.n rfl) ?_
        refine CW.take 7 rfl (by kernel_rfl) (by kernel_rfl) (by kernel_rfl) (fun _ _ _ _ _ h=>h) rfl Kept.auto (Y.load isAgg110 rfl (Cell.a (l7 (by omega)))) ?_
        refine CW.ML 4 rfl (by kernel_rfl) call251 rfl (oq (f:=f) (m:=m) (at_:=f.aI.getD i.a.toNat 0) (hF.r _).1 hl) .auto ?_ ?_
        ·exact fun _=>⟨_,if_neg (by omega)⟩
        rintro⟨⟩ c e -
        rw[if_neg (by omega)] at e
        cases e
        have hz:lN f m i=none:=by
         unfold lN;rw[if_neg h48,if_neg h55,if_neg h69,if_neg h80,if_pos h101,if_neg (show ¬f.tg i.a<m.length by show ¬f.aI.getD i.a.toNat 0<_;omega)]
        rw[hz]
        refine fun a w ha s=>And.intro ha.defers (Exists.intro () (And.intro ?_ (And.intro trivial (ai .auto s))))
        rfl
      ·refine J 1 ?_
       refine .draw [arr b3 0 (dH i),arr b 0 (vK f v)] [1,1,1,2,0,0,0,3,1,1,1,1,1] rfl (by kernel_rfl) ?_
       refine J 3 ?_
       refine .c2 call250 rfl (fS hI.a) fun _ _=>?_
       refine J 3 ?_
       refine .c call250 rfl (fS hI.b) fun _ _=>?_
       refine J 1 ?_
       refine .p (.ld rfl (Cell.a (l7 (by omega)))) ?_
       refine J 5 ?_
       refine .FT (X:=Unit) [11,28,29,30,31,32,33,34,35,36,37] (fun _=>True) (fun _=>[(11,some (.int .u64 (if qo i.op=true then 0 else f.tg i.c)))]) (fun _=>[arr b3 0 (dH i),arr b 0 (vK f v),sl cO 1 v m,F]) ?_ ?_
       ·refine J 4 ?_
        refine .c call252 rfl Am fun _ _=>?_
        refine JD 3 (fun h31=>?_) fun h31=>?_
        ·refine J 4 ?_
         refine .c call250 rfl (fS hI.c) fun _ _=>?_
         refine J 1 ?_
         refine .p (.ld rfl (Cell.a (l7 (by omega)))) ?_
         refine J 2 ?_
         refine .nj () .auto ?_ ?_ ?_
         ·trivial
         ·rw[if_neg (show ¬qo i.op=true by rw[Bool.not_eq_true'] at h31;rw[h31];simp)];exact⟨rfl,trivial⟩
         ·exact fun w s=>ax.kept .auto w s
        ·refine J 1 ?_
         refine .nj () .auto ?_ ?_ ?_
         ·trivial
         ·rw[if_pos (show qo i.op=true by simpa using h31)];exact⟨rfl,trivial⟩
         ·exact fun w s=>ax.kept .auto w s
       ·rintro⟨⟩ -
        obtain⟨y,hy⟩:∃ y,y=(if qo i.op=true then 0 else f.tg i.c):=⟨_,rfl⟩
        have hy0:0≤y:=by
         subst hy
         split
         ·exact Int.le_refl _
         ·exact(hF.r _).1
        rw[← hy]
        refine J 6 ?_
        refine .c call253 rfl (An (hF.r _).1 hy0) fun t38 _=>?_
        refine J 1 ?_
        refine .p (.extract (v:=.int .u64 (ck i.op (f.aI.getD i.b.toNat 0) y)) rfl rfl) ?_
        refine J 2 ?_
        refine .aj rfl (af.st sizeOf110 rfl rfl rfl (Nat.blt_eq.mpr (by show 2+i.a.toNat<11;omega))) ?_
        rintro _ _ ⟨rfl,rfl⟩
        rw[Bn _ (show i.a.toNat<8 by omega) hF.l]
        refine J 2 ?_
        refine .nj (f.aI.set i.a.toNat (ck i.op (f.aI.getD i.b.toNat 0) y),f.pc+1,m) .auto ?_ ?_ ?_
        ·unfold lN;rw[if_neg h48,if_neg h55,if_neg h69,if_neg h80,if_neg h101];subst hy;rfl
        ·exact⟨rfl,trivial⟩
        ·exact fun w s=>ax.kept .auto w s
 ·rintro⟨rs,nx,m2⟩ hz
  simp only at hz
  refine J 8 ?_
  rw[hz]
  exact JR 0 ()
theorem Fe{W:World}{p6 p7 p8:Nat}{Hs:List aa}{w:World}(hs:Sat W w (seps Hs)):CallsD Tryz.prog 229 #[ptr p6,ptr p7,ptr p8] .returning w (fun e u2 w2=>u2 = .returning∧e = .returned (.tuple #[])∧Sat W w2 (seps Hs)):=by
 refine l8 (d:=6) (N:=15) (v:=.nilIface) (u2:=.returning) (args:=[ptr p6,ptr p7,ptr p8]) func229 rfl ntmps229 rfl rfl rfl (fun c cs hc=>.inr ⟨by simp[recoverD,hc],rfl,rfl⟩) hs ?_
 refine J 3 ?_
 refine .p (.MO underlying20 rfl) ?_
 refine J 2 ?_
 refine .fu rfl ?_
 refine J 4 ?_
 refine .MQ fun w s=>⟨rfl,rfl,?_⟩
 first | exact s | exact ax.kept .auto _ s
theorem Ff{W:World}{p6 p7 p8:Nat}{F:aa}{w:World}(hs:Sat W w (seps [arr p6 0 (iM iP.z),arr p7 0 [.slice none 0 0],arr p8 0 [.int .i64 0],F])):CallsD Tryz.prog 229 #[ptr p6,ptr p7,ptr p8] (.panicking (vL 308 6)) w (fun e u2 w2=>u2 = .panicking [{v:=.iface 308 (.agg #[.int .i64 6]),recovered:=true }]∧e = .returned (.tuple #[])∧Sat W w2 (seps [arr p6 0 (iM iP.z),arr p7 0 [.slice none 0 0],arr p8 0 [.int .i64 6],F])):=by
 refine l8 (d:=6) (N:=15) (v:=.iface 308 (.agg #[.int .i64 6])) (u2:=.panicking [{v:=.iface 308 (.agg #[.int .i64 6]),recovered:=true }]) (args:=[ptr p6,ptr p7,ptr p8]) func229 rfl ntmps229 rfl rfl rfl (fun c cs hc=>.inl (by simp[recoverD,hc,vL])) hs ?_
 refine J 3 ?_
 refine .p (.MP underlying20 rfl) ?_
 refine J 2 ?_
 refine .ew rfl ?_
 refine J 2 ?_
 refine .p (.JB (r:=.tuple #[.agg #[.int .i64 6],.bool true]) rfl (fun w=>by simp[Instr.typeAssert,run_underlying underlying308])) ?_
 refine .p (.extract (v:=.bool true) rfl rfl) ?_
 refine .p (.extract (v:=.agg #[.int .i64 6]) rfl rfl) ?_
 refine J 2 ?_
 refine .fu rfl ?_
 refine J 2 ?_
 refine .aj rfl (af.alloc rfl zeroValue308 rfl) ?_
 rintro _ _ ⟨b4,rfl,rfl⟩
 refine J 3 ?_
 refine .draw [arr b4 0 [.int .i64 6]] [1,0,0,2,2,3] rfl (by kernel_rfl) ?_
 refine .p (.lR ([(.int .i64 0),(.int .i64 0),(.int .u64 0),(.int .u64 0),(.int .u64 0),(.int .u64 0),(.int .u64 0),(.int .u64 0),(.int .u64 0),(.int .u64 0)]) (by kernel_rfl)) ?_
 refine J 2 ?_
 refine .d2 rfl Kept.auto (af.iJ (by exact sizeOf165) rfl rfl rfl (by rfl)) (by rintro _ _ ⟨rfl,rfl⟩;exact Kept.auto) ?_
 rintro _ _ ⟨rfl,rfl⟩
 refine J 4 ?_
 refine .MQ fun w s=>⟨rfl,rfl,?_⟩
 first | exact s | exact ax.kept .auto _ s
theorem B9{W:World}{p6 p7 p8:Nat}{R:List aa}{w:World}(hs:Sat W w (seps ([arr p6 0 (iM iP.z),arr p7 0 [.slice none 0 0],arr p8 0 [.int .i64 0]]++R))):CallsD Tryz.prog 229 #[ptr p6,ptr p7,ptr p8] (.panicking (vL 308 6)) w (fun e u2 w2=>u2 = .panicking [{v:=.iface 308 (.agg #[.int .i64 6]),recovered:=true }]∧e = .returned (.tuple #[])∧Sat W w2 (seps ([arr p6 0 (iM iP.z),arr p7 0 [.slice none 0 0],arr p8 0 [.int .i64 6]]++R))) :=
 (Ff (F:=seps R) (hs.eq (by rw[ah];simp only[seps,aJ,aU]))).mono fun _ _ _ ⟨a,b,c⟩=>⟨a,b,c.eq (by rw[ah];simp only[seps,aJ,aU])⟩
theorem Ao{W:World}{A:aa}{f:iP}{i:Ins}{v:Value}{m:List Int}(hr:Rd W [A] cO 1 v m)(hl:m.length≤1000000)(hI:nw i)(hF:CX f)(hc:cls i.op=1):Fn Tryz.prog W 208 [.agg (iM f).toArray,.agg (dH i).toArray,v] [A] Value (fun u=>.tuple #[.agg (iM (fX f m i).1).toArray,u,.int .i64 (fX f m i).2.2]) (fun _=>True) (fun u=>[sl cO 1 u (fX f m i).2.1,A]):=by
 refine Fn.Ly (N:=39) func208 rfl ntmps208 rfl fun F=>?_
 haveI hRI:∀ (H:List aa) [bf H A],aw W H v cO 1 m:=fun H h=>⟨hr.at h.has⟩
 show aq _ _ _ _ _ _ [A,F]
 refine J 2 ?_
 refine .aj rfl (af.box rfl rfl rfl) ?_
 rintro _ _ ⟨b3,rfl,rfl⟩
 refine .mem (H':=[arr b3 0 (iM f),A,F]) (fun w s=>s) ?_
 refine .aj rfl (af.box rfl rfl rfl) ?_
 rintro _ _ ⟨b4,rfl,rfl⟩
 refine .mem (H':=[arr b4 0 (dH i),arr b3 0 (iM f),A,F]) (fun w s=>s) ?_
 refine .aj rfl (af.alloc rfl zeroValue165 rfl) ?_
 rintro _ _ ⟨b6,rfl,rfl⟩
 refine .aj rfl (af.alloc rfl zeroValue47 rfl) ?_
 rintro _ _ ⟨b7,rfl,rfl⟩
 refine .aj rfl (af.alloc rfl zeroValue25 rfl) ?_
 rintro _ _ ⟨b8,rfl,rfl⟩
 refine J 7 ?_
 refine .c call168 rfl lg fun _ _=>?_
 refine JD 3 (fun h13=>?_) fun h13=>?_
 ·exact absurd hc h13
 ·refine J 4 ?_
  refine .p (.makeFunc rfl rfl) ?_
  refine .Ln rfl ?_
  refine fO.nil ?_
  refine tp.iB ?_
  refine kQ.seq ?_
  refine kQ.draw [arr b3 0 (iM f),A] [0,1,1,2,1,3,1] rfl (by kernel_rfl) ?_
  refine fz.k rfl Kept.auto (Y.FZ isAgg165 rfl Cells.a (by exact sizeOf165)) ?_
  refine fz.s rfl (Y.m rfl) ?_
  refine fz.s rfl (Y.FV underlying47 rfl Rd.s) ?_
  refine fz.d2 rfl Kept.auto (af.F5 (enc:=cO) (k:=1) 0 m.length rfl underlying47 typeInfo110 rfl rfl rfl rfl (by decide) (by decide) rfl rfl rfl rfl (by omega)) (by rintro _ _ ⟨b19,rfl,rfl⟩;exact Kept.auto) ?_
  rintro _ _ ⟨b19,rfl,rfl⟩
  refine fz.s rfl (Y.gr (fun _ v2=>vK f v2) rfl rfl (by kernel_rfl)) ?_
  refine fz.d3 rfl (af.box rfl rfl rfl) ?_
  rintro _ _ ⟨b21,rfl,rfl⟩
  refine fz.s rfl (Y.a rfl) ?_
  refine fz.nil ?_
  refine tp.iB ?_
  refine kQ.seq ?_
  refine kQ.region ?_
  refine fO.y rfl (Y.m rfl) ?_
  refine fO.y rfl (Y.n rfl) ?_
  refine fO.y rfl (Y.et 10 47 underlying311 rfl sizeOf47 rfl) ?_
  refine fO.y rfl (Y.load isAgg47 rfl (Cell.a (by rfl))) ?_
  refine fO.y rfl (Y.m rfl) ?_
  refine fO.aj rfl (af.JC rfl underlying47 sizeOf110 rfl rfl Rd.s .auto (by simp) rfl (sY _)) ?_
  rintro _ _ ⟨rfl,rfl⟩
  refine fO.nil ?_
  refine tp.iB ?_
  refine kQ.seq ?_
  refine kQ.region ?_
  refine fO.y rfl (Y.m rfl) ?_
  refine fO.y rfl (Y.FZ isAgg112 rfl Cells.a (by exact sizeOf112)) ?_
  refine fO.Lo (fun d h=>by cases h;rfl) call230 rfl (Iu (f:=f) (v:=.slice (some ⟨b19,0,none⟩) m.length m.length) (m:=m) (i:=i) hI hF hl) .auto (fun _ h=>by unfold doEnd at h;split at h <;> cases h) ?_ ?_
  ·rintro⟨⟩ u e -
   obtain⟨z,hz⟩:∃ z,lN f m i=some z:=by
    cases h:lN f m i with
    | none=>rw[h] at e;cases e
    | some z=>exact⟨z,rfl⟩
   rw[hz] at e
   cases e
   rw[show NA b21 (.slice (some ⟨b19,0,none⟩) m.length m.length) (lN f m i)=[arr b21 0 (vK z.1 (.slice (some ⟨b19,0,none⟩) m.length m.length)),sl cO 1 (.slice (some ⟨b19,0,none⟩) m.length m.length) z.2] from by rw[hz];rfl]
   refine fO.nil ?_
   refine tp.iB ?_
   refine kQ.seq ?_
   refine kQ.draw [arr b21 0 (vK z.1 (.slice (some ⟨b19,0,none⟩) m.length m.length))] [1,1,1,1,0,0,0,0,2,3,3] rfl (by kernel_rfl) ?_
   refine fz.s rfl (Y.m rfl) ?_
   refine fz.s rfl (Y.n rfl) ?_
   refine fz.s rfl (Y.gq 165 underlying311 rfl sizeOf165 rfl) ?_
   refine fz.s rfl (Y.FZ isAgg165 rfl (Cells.lQ (ds:=iM z.1) Cells.a rfl) (by exact sizeOf165)) ?_
   refine fz.k rfl Kept.auto (Y.m rfl) ?_
   refine fz.k rfl Kept.auto (Y.n rfl) ?_
   refine fz.k rfl Kept.auto (Y.et 10 47 underlying311 rfl sizeOf47 rfl) ?_
   refine fz.k rfl Kept.auto (Y.load isAgg47 rfl (Cell.a (by rfl))) ?_
   refine fz.d2 rfl Kept.auto (af.iJ (by exact sizeOf165) rfl rfl rfl (by rfl)) (by rintro _ _ ⟨rfl,rfl⟩;exact Kept.auto) ?_
   rintro _ _ ⟨rfl,rfl⟩
   refine fz.d3 rfl (af.lY sizeOf47 rfl rfl rfl) ?_
   rintro _ _ ⟨rfl,rfl⟩
   refine fz.d3 rfl (af.st sizeOf25 rfl rfl rfl rfl) ?_
   rintro _ _ ⟨rfl,rfl⟩
   refine fz.nil ?_
   refine tp.iB ?_
   refine kQ.ret ?_
   refine fun a w ha s=>?_
   show Leaves Tryz.prog Tryz.f208 a.tmps _ a.defers .returning w
   rw[ha.defers]
   refine leaves_cons (by intro h;cases h) (by simp[invoke,call229]) ((Fe (p6:=b6) (p7:=b7) (p8:=b8) s).mono ?_)
   rintro e2 u2 w2 ⟨rfl,rfl,s2⟩
   exact⟨_,(vM ha s2 rfl rfl rfl rfl isAgg165 (by exact sizeOf165) isAgg47 isAgg25 Cells.a (Cell.a rfl) (Cell.a rfl)),.slice (some ⟨b19,0,none⟩) m.length m.length,by rw[fX,hz],trivial,by rw[fX,hz];exact ai .auto s2⟩
  ·rintro⟨⟩ c e -
   have hz:lN f m i=none:=by
    cases h:lN f m i with
    | none=>rfl
    | some z=>rw[h] at e;cases e
   rw[hz] at e
   cases e
   rw[show NA b21 (.slice (some ⟨b19,0,none⟩) m.length m.length) (lN f m i)=[] from by rw[hz];rfl]
   refine fun a w ha s=>?_
   show Leaves Tryz.prog Tryz.f208 a.tmps _ a.defers (.panicking (vL 308 6)) w
   rw[ha.defers]
   have s1:=ax.sat (As:=[arr b6 0 (iM iP.z),arr b7 0 [.slice none 0 0],arr b8 0 [.int .i64 0]]) .auto s
   refine leaves_cons (by intro h;cases h) (by simp[invoke,call229]) ((B9 (p6:=b6) (p7:=b7) (p8:=b8) s1).mono ?_)
   rintro e2 u2 w2 ⟨rfl,rfl,s2⟩
   exact⟨_,(vM ha s2 rfl rfl rfl rfl isAgg165 (by exact sizeOf165) isAgg47 isAgg25 Cells.a (Cell.a rfl) (Cell.a rfl)),.slice none 0 0,by rw[fX,hz],trivial,by rw[fX,hz];exact ai .auto s2⟩
end Go.SLYthlllpngkljgfaaGreat
namespace Go.SLYthlllpngkljgfaaGreat
open Go Go.RowKit Go.Proofs Go.Proofs.Tryz
attribute [local irreducible] aq aS bc bx bC Y
theorem kr{W:World}{bd b p q:Nat}{ps:List (Option Nat)}{d:Dng}{t:bE}{n:Int}(h0:0≤n)(hp:ps[n.toNat]?=some (some q))(ht:d.s.aF[n.toNat]?=some (some t))(hn16:n.toNat<16)(hR:gV t)(he:d.ends.length≤1000000)(hw:d.out.ar.length≤1000000){y:Int}:Fn Tryz.prog W 207 [ptr bd,.int .i64 n,.int .u64 y] [bq bd b p ps d] Unit (fun _=>.tuple #[]) (fun _=>True) (fun _=>[bq bd b p ps (d.cj n.toNat y)]):=by
 have:=Iq (W:=W) (bd:=bd) (b:=b) (p:=p) hp ht hn16 hR he hw (y:=y)
 rwa [show((n.toNat:Nat):Int)=n from by omega] at this
theorem sr{W:World}{bd b p:Nat}{ps:List (Option Nat)}{d:Dng}{t:bE}(hp:ps[d.n]?=some (some p))(ht:d.s.aF[d.n]?=some (some t)){v:Int}(hl:d.s.aF.length=16)(hpl:ps.length=16)(hT:jo d.s.table)(hR:gV t)(he:d.ends.length≤1000000)(hw:d.out.ar.length≤1000000)(hj:¬t.ay = -1→0≤t.ay∧t.ay.toNat≠d.n∧bM ps d.s t.ay.toNat):Fn Tryz.prog W 185 [ptr bd,.int .u64 v] [bq bd b p ps d] (List (Option Nat)) (fun _=>.tuple #[]) (fun _=>True) (fun qs=>[bq bd b p qs (d.fin v)]):=by
 refine Fn.intro (N:=66) func185 rfl ntmps185 rfl fun F=>?_
 show aq _ _ _ _ _ _ [bq bd b p ps d,F]
 refine .o2 (C:=bq bd b p ps d) .auto rfl ?_
 rintro vw ve -
 refine .jA (C:=cB b ps d.s) .auto rfl ?_
 rintro fv sv pv bt vm bg vt bk bw vr -
 refine .fr .auto (bQ hp ht) ?_
 refine J 7 ?_
 rw[Ew]
 refine JD 15 (fun h21=>?_) fun h21=>?_
 ·refine .to (A:=aA ps d.s.aF) (Bs:=[arr p 0 (bj t),aA (ps.set d.n none) (d.s.aF.set d.n none)]) .auto (bP hp ht) ?_
  refine .draw [arr bd 0 (ee b p (d.ended) vw ve)] [1,1,1,1,1,1,1,1,3] rfl (by kernel_rfl) ?_
  refine J 8 ?_
  refine .c call206 rfl (nh hp ht hl hpl hT hR.h.1) fun _ _=>?_
  refine J 2 ?_
  rw[C4 ht h21]
  refine .DW rfl fun w s=>⟨ps.set d.n none,?_,trivial,ai .auto s⟩
  rfl
 ·refine JD 13 (fun h38=>?_) fun h38=>?_
  ·refine J 11 ?_
   obtain⟨hj0,hjn,hj16,q,tj,hq,htj,hRj⟩:=hj h38
   refine .to (A:=aA ps d.s.aF) (Bs:=[arr p 0 (bj t),aA (ps.set d.n none) (d.s.aF.set d.n none)]) .auto (bP hp ht) ?_
   refine .c call207 rfl (kr (d:=d.ended) hj0 hq htj hj16 hRj he hw) fun _ _=>?_
   refine .o2 (C:=bq bd b p ps (d.ended.cj t.ay.toNat v)) .auto rfl ?_
   rintro vw ve -
   have ht2:(d.ended.cj t.ay.toNat v).s.aF[d.n]?=some (some t):=GY ht hjn
   refine J 2 ?_
   refine .draw [arr bd 0 (ee b p (d.ended.cj t.ay.toNat v) vw ve)] [1,1,1,1,1,1,1,1,3] rfl (by kernel_rfl) ?_
   refine J 8 ?_
   refine .c call206 rfl (nh (s:=(d.ended.cj t.ay.toNat v).s) hp ht2 (by simp[Dng.cj,Spc.dI,Spc.aV,Dng.ended,hl]) hpl hT hR.h.1) fun _ _=>?_
   refine J 2 ?_
   rw[zB ht h21 h38]
   refine .DW rfl fun w s=>⟨ps.set d.n none,?_,trivial,ai .auto s⟩
   rfl
  ·have h38:t.ay = -1:=Decidable.byContradiction h38
   refine .draw [arr bd 0 (ee b p (d.ended) vw ve)] [1,1,1,1,1,1,1,1,0,1,1,2,1,1,3] rfl (by kernel_rfl) ?_
   refine J 12 ?_
   rw[oY]
   refine J 3 ?_
   rw[Eu]
   refine J 2 ?_
   rw[zA ht h21 h38]
   refine .to (A:=aA ps (d.s.aF.set d.n (some ({t with cQ:=9,value:=v })))) (Bs:=[arr p 0 (bj ({t with cQ:=9,value:=v })),aA (ps.set d.n none) (d.s.aF.set d.n none)]) .auto (cx (List.getElem?_eq_some_iff.1 ht).1 hp) ?_
   exact JR 0 ps
theorem qL{W:World}{bd b p:Nat}{ps:List (Option Nat)}{d:Dng}{n:Int}{ok:Bool}(hg:ok=true→0≤n∧bM ps d.s n.toNat)(he:d.ends.length≤1000000)(hw:d.out.ar.length≤1000000):Fn Tryz.prog W 236 [ptr bd,.int .i64 n,.bool ok] [bq bd b p ps d] Unit (fun _=>.tuple #[]) (fun _=>True) (fun _=>[bq bd b p ps (d.given n ok)]):=by
 refine Fn.intro (N:=10) func236 rfl ntmps236 rfl fun F=>?_
 show aq _ _ _ _ _ _ [bq bd b p ps d,F]
 refine JD 5 (fun h6=>?_) fun h6=>?_
 ·refine J 1 ?_
  obtain⟨h0,hn16,q,t,hq,ht,hR⟩:=hg h6
  refine J 2 ?_
  refine .c call207 rfl (kr h0 hq ht hn16 hR he hw) fun _ _=>?_
  refine J 1 ?_
  rw[show d.given n ok=d.cj n.toNat 0 from by unfold Dng.given;rw[if_pos h6]]
  exact JR 0 ()
 ·refine J 1 ?_
  rw[show d.given n ok=d from by unfold Dng.given;rw[if_neg (by rw[h6];simp)]]
  exact JR 0 ()
theorem Fg{W:World}{bd b p:Nat}{ps:List (Option Nat)}{d:Dng}{t:bE}(hp:ps[d.n]?=some (some p))(ht:d.s.aF[d.n]?=some (some t))(hI:nw d.i)(hF:CX t.mX)(hc:cls d.i.op=1)(hm:d.s.mem.length≤1000000)(hr:d.s.av.length≤1000000000)(hl:d.s.aF.length=16)(hpl:ps.length=16)(hT:jo d.s.table)(hR:gV t)(he:d.ends.length≤1000000)(hw:d.out.ar.length≤1000000)(hj:¬t.ay = -1→0≤t.ay∧t.ay.toNat≠d.n∧bM ps d.s t.ay.toNat):Fn Tryz.prog W 186 [ptr bd] [bq bd b p ps d] (List (Option Nat)) (fun _=>.tuple #[]) (fun _=>True) (fun qs=>[bq bd b p qs d.plain]):=by
 refine Fn.intro (N:=124) func186 rfl ntmps186 rfl fun F=>?_
 show aq _ _ _ _ _ _ [bq bd b p ps d,F]
 refine .o2 (C:=bq bd b p ps d) .auto rfl ?_
 rintro vw ve -
 refine .jA (C:=cB b ps d.s) .auto rfl ?_
 rintro fv sv pv bt vm bg vt bk bw vr -
 refine .fr .auto (bQ hp ht) ?_
 have hIa:=hI.a
 have hIb:=hI.b
 have hb:d.b=t.aI.getD d.i.b.toNat 0:=by unfold Dng.b;rw[dc ht];rfl
 have ha:d.a=t.aI.getD d.i.a.toNat 0:=by unfold Dng.a;rw[dc ht];rfl
 have hbr:=hR.r d.i.b.toNat
 refine J 1 ?_
 refine .draw [] [1,1,1,1,1,1,1,1,1,1,1,1,1,1,1,1,1,1,1,1,1,1,1,1,1,1,1,1,1,1] rfl (by kernel_rfl) ?_
 refine J 12 ?_
 refine .p (.dF d.i.a.toNat underlying163 sizeOf110 rfl rfl (by omega) (by omega)) ?_
 refine .p (.ld rfl (Cell.a (mY (by omega)))) ?_
 refine J 12 ?_
 refine .p (.dF d.i.b.toNat underlying163 sizeOf110 rfl rfl (by omega) (by omega)) ?_
 refine .p (.ld rfl (Cell.a (mY (by omega)))) ?_
 refine J 5 ?_
 refine .vz [arr bd 0 (ee b p d vw ve),arr b 0 (fo fv sv pv d.s.eT bt ps vm bg vt bk bw vr),arr p 0 (bj t),sl cO 1 vm d.s.mem] [0,0,0,0,0,0,0,0,0,0,0,0,0,0,0,0,0,0,2,0,0,0,0,4,2,0,0] [0,1,2,3,4,5,6,7,8,9,10,11,12,13,14,15,16,17,18,19,20,21,22,23,24,25,26] rfl (by kernel_rfl) ?_
 refine bC.q rfl rfl rfl Kept.auto (Y.m rfl) ?_
 refine bC.q rfl rfl rfl Kept.auto (Y.n rfl) ?_
 refine bC.q rfl rfl rfl Kept.auto (Y.et 2 133 underlying273 rfl sizeOf133 rfl) ?_
 refine bC.q rfl rfl rfl Kept.auto (Y.load isAgg133 rfl (Cell.a (by rfl))) ?_
 refine bC.q rfl rfl rfl Kept.auto (Y.n rfl) ?_
 refine bC.q rfl rfl rfl Kept.auto (Y.gq 165 underlying167 rfl sizeOf165 rfl) ?_
 refine bC.q rfl rfl rfl Kept.auto (Y.FZ isAgg165 rfl (Cells.lQ (ds:=iM t.mX) (Cells.a (cs:=bj t)) rfl) (by exact sizeOf165)) ?_
 refine bC.q rfl rfl rfl Kept.auto (Y.m rfl) ?_
 refine bC.q rfl rfl rfl Kept.auto (Y.n rfl) ?_
 refine bC.q rfl rfl rfl Kept.auto (Y.et 3 112 underlying273 rfl sizeOf112 rfl) ?_
 refine bC.q rfl rfl rfl Kept.auto (Y.FZ isAgg112 rfl (Cells.lQ (ds:=dH d.i) (Cells.a (cs:=ee b p d vw ve)) rfl) (by exact sizeOf112)) ?_
 refine bC.q rfl rfl rfl Kept.auto (Y.m rfl) ?_
 refine bC.q rfl rfl rfl Kept.auto (Y.n rfl) ?_
 refine bC.q rfl rfl rfl Kept.auto (Y.gq 58 underlying273 rfl sizeOf58 rfl) ?_
 refine bC.q rfl rfl rfl Kept.auto (Y.load isAgg58 rfl (Cell.a (by rfl))) ?_
 refine bC.q rfl rfl rfl Kept.auto (Y.n rfl) ?_
 refine bC.q rfl rfl rfl Kept.auto (Y.et 25 47 underlying137 rfl sizeOf47 rfl) ?_
 refine bC.q rfl rfl rfl Kept.auto (Y.load isAgg47 rfl (Cell.a (by rfl))) ?_
 refine bC.eH rfl (.inl rfl) rfl (fun _=>Kept.auto) call208 rfl (Ao (A:=sl cO 1 vm d.s.mem) Rd.s hm hI hF hc) .auto (fun _ _=>Kept.auto) ?_
 rintro u5 -
 refine bC.q rfl rfl rfl Kept.auto (Y.m rfl) ?_
 refine bC.q rfl rfl rfl Kept.auto (Y.extract (v:=.agg (iM (fX t.mX d.s.mem d.i).1).toArray) rfl rfl) ?_
 refine bC.q rfl rfl rfl Kept.auto (Y.extract (v:=u5) rfl rfl) ?_
 refine bC.q rfl rfl rfl Kept.auto (Y.extract (v:=.int .i64 (fX t.mX d.s.mem d.i).2.2) rfl rfl) ?_
 refine bC.fresh rfl rfl rfl (by decide) Kept.auto (lT zeroValue165 rfl) ?_
 rintro b4
 refine bC.LA rfl rfl (by exact sizeOf165) rfl rfl rfl (by rfl) Kept.auto Kept.auto ?_
 refine bC.q rfl rfl rfl Kept.auto (Y.a rfl) ?_
 refine bC.q rfl rfl rfl Kept.auto (Y.a rfl) ?_
 refine bC.nil ?_
 refine J 12 ?_
 apply aS.gz 3 68 65 [65,66,67,68] rfl
 ·intro h65
  exact JS 4
 ·intro h65
  exact JS 4
 refine JD 3 (fun h58=>?_) fun h58=>?_
 ·simp only[Bool.and_eq_true,decide_eq_true_eq] at h58
  obtain⟨h1,h0⟩:=h58
  obtain⟨z,hz⟩:=nT h0
  rw[kR hz]
  have hlt:t.aI.getD d.i.b.toNat 0<d.s.mem.length:=G0 hz h1
  refine J 11 ?_
  refine .p (.sM (t.aI.getD d.i.b.toNat 0).toNat underlying47 sizeOf110 rfl rfl Rd.s (by omega) (by omega)) ?_
  refine .p (.ld rfl (Cell.KH Rd.s (getD_some (d:=(0:Int)) (show(t.aI.getD d.i.b.toNat 0).toNat<d.s.mem.length by omega)) (by rfl))) ?_
  refine .to (A:=aA ps d.s.aF) (Bs:=[arr p 0 (bj t),aA (ps.set d.n none) (d.s.aF.set d.n none)]) .auto (bP hp ht) ?_
  refine J 1 ?_
  refine .c call184 rfl (jy hp ht hr) fun _ _=>?_
  refine J 10 ?_
  refine .ew rfl ?_
  refine J 2 ?_
  refine .o2 (C:=bq bd b p ps (d.tell (t.aI.getD d.i.b.toNat 0) (d.s.mem.getD (t.aI.getD d.i.b.toNat 0).toNat 0) 0 true)) .auto rfl ?_
  rintro vw ve -
  refine .jA (C:=cB b ps (d.tell (t.aI.getD d.i.b.toNat 0) (d.s.mem.getD (t.aI.getD d.i.b.toNat 0).toNat 0) 0 true).s) .auto rfl ?_
  rintro fv sv pv bt vm bg vt bk bw vr -
  refine .fr .auto (bQ hp (show(d.tell (t.aI.getD d.i.b.toNat 0) (d.s.mem.getD (t.aI.getD d.i.b.toNat 0).toNat 0) 0 true).s.aF[(d.tell (t.aI.getD d.i.b.toNat 0) (d.s.mem.getD (t.aI.getD d.i.b.toNat 0).toNat 0) 0 true).n]?=some (some t) from ht)) ?_
  refine .draw [arr bd 0 (ee b p (d.tell (t.aI.getD d.i.b.toNat 0) (d.s.mem.getD (t.aI.getD d.i.b.toNat 0).toNat 0) 0 true) vw ve),arr b4 0 (iM z.1)] [1,1,1,1,1,1,1,1,1,0,1,1,2,1,1,3] rfl (by kernel_rfl) ?_
  refine J 12 ?_
  refine .d2 rfl Kept.auto (af.KI (vs:=iM z.1) (by exact sizeOf165) rfl rfl rfl rfl) (by rintro _ _ ⟨rfl,rfl⟩;exact Kept.auto) ?_
  rintro _ _ ⟨rfl,rfl⟩
  rw[tz]
  refine J 2 ?_
  refine .d3 rfl (af.lY sizeOf47 rfl rfl rfl) ?_
  rintro _ _ ⟨rfl,rfl⟩
  rw[xO]
  refine J 1 ?_
  refine .to (A:=aA ps ((d.tell (t.aI.getD d.i.b.toNat 0) (d.s.mem.getD (t.aI.getD d.i.b.toNat 0).toNat 0) 0 true).s.aF.set (d.tell (t.aI.getD d.i.b.toNat 0) (d.s.mem.getD (t.aI.getD d.i.b.toNat 0).toNat 0) 0 true).n (some (t.nM z.1)))) (Bs:=[arr p 0 (bj (t.nM z.1)),aA (ps.set (d.tell (t.aI.getD d.i.b.toNat 0) (d.s.mem.getD (t.aI.getD d.i.b.toNat 0).toNat 0) 0 true).n none) ((d.tell (t.aI.getD d.i.b.toNat 0) (d.s.mem.getD (t.aI.getD d.i.b.toNat 0).toNat 0) 0 true).s.aF.set (d.tell (t.aI.getD d.i.b.toNat 0) (d.s.mem.getD (t.aI.getD d.i.b.toNat 0).toNat 0) 0 true).n none)]) .auto (cx (List.getElem?_eq_some_iff.1 ht).1 hp) ?_
  rw[jM ht hz,show d.told=d.tell (t.aI.getD d.i.b.toNat 0) (d.s.mem.getD (t.aI.getD d.i.b.toNat 0).toNat 0) 0 true from by unfold Dng.told;rw[if_pos h1,hb]]
  exact JR 0 ps
 ·simp only[Bool.and_eq_false_iff,decide_eq_false_iff_not] at h58
  refine JD 11 (fun h83=>?_) fun h83=>?_
  ·have hz:=qy (h58.resolve_left (fun h=>h h83))
   rw[tA hz]
   refine J 1 ?_
   refine .to (A:=aA ps d.s.aF) (Bs:=[arr p 0 (bj t),aA (ps.set d.n none) (d.s.aF.set d.n none)]) .auto (bP hp ht) ?_
   refine J 3 ?_
   refine .c call184 rfl (jy hp ht hr) fun _ _=>?_
   refine J 10 ?_
   refine .fu rfl ?_
   refine J 3 ?_
   refine .c call185 rfl (sr (d:=(d.tell (t.aI.getD d.i.b.toNat 0) 0 6 true)) hp ht hl hpl hT hR he hw hj) fun qs _=>?_
   refine J 4 ?_
   rw[l9 ht hz,if_pos h83,hb]
   exact JR 0 qs
  ·refine JD 11 (fun h94=>?_) fun h94=>?_
   ·refine J 1 ?_
    refine .to (A:=aA ps d.s.aF) (Bs:=[arr p 0 (bj t),aA (ps.set d.n none) (d.s.aF.set d.n none)]) .auto (bP hp ht) ?_
    refine J 4 ?_
    refine .c call184 rfl (jy hp ht hr) fun _ _=>?_
    refine JD 10 (fun h107=>?_) fun h107=>?_
    ·have hz:=qy h107
     rw[tA hz]
     refine J 3 ?_
     refine .c call185 rfl (sr (d:=(d.tell (t.aI.getD d.i.a.toNat 0) (t.aI.getD d.i.b.toNat 0) 6 true)) hp ht hl hpl hT hR he hw hj) fun qs _=>?_
     refine J 4 ?_
     rw[l9 ht hz,if_neg h83,ha,hb]
     exact JR 0 qs
    ·obtain⟨z,hz⟩:=nT (Decidable.not_not.mp h107)
     rw[kR hz]
     refine J 2 ?_
     refine .o2 (C:=bq bd b p ps (d.tell (t.aI.getD d.i.a.toNat 0) (t.aI.getD d.i.b.toNat 0) 0 true)) .auto rfl ?_
     rintro vw ve -
     refine .jA (C:=cB b ps (d.tell (t.aI.getD d.i.a.toNat 0) (t.aI.getD d.i.b.toNat 0) 0 true).s) .auto rfl ?_
     rintro fv sv pv bt vm bg vt bk bw vr -
     refine .fr .auto (bQ hp (show(d.tell (t.aI.getD d.i.a.toNat 0) (t.aI.getD d.i.b.toNat 0) 0 true).s.aF[(d.tell (t.aI.getD d.i.a.toNat 0) (t.aI.getD d.i.b.toNat 0) 0 true).n]?=some (some t) from ht)) ?_
     refine .draw [arr bd 0 (ee b p (d.tell (t.aI.getD d.i.a.toNat 0) (t.aI.getD d.i.b.toNat 0) 0 true) vw ve),arr b4 0 (iM z.1)] [1,1,1,1,1,1,1,1,1,0,1,1,2,1,1,3] rfl (by kernel_rfl) ?_
     refine J 12 ?_
     refine .d2 rfl Kept.auto (af.KI (vs:=iM z.1) (by exact sizeOf165) rfl rfl rfl rfl) (by rintro _ _ ⟨rfl,rfl⟩;exact Kept.auto) ?_
     rintro _ _ ⟨rfl,rfl⟩
     rw[tz]
     refine J 2 ?_
     refine .d3 rfl (af.lY sizeOf47 rfl rfl rfl) ?_
     rintro _ _ ⟨rfl,rfl⟩
     rw[xO]
     refine J 1 ?_
     refine .to (A:=aA ps ((d.tell (t.aI.getD d.i.a.toNat 0) (t.aI.getD d.i.b.toNat 0) 0 true).s.aF.set (d.tell (t.aI.getD d.i.a.toNat 0) (t.aI.getD d.i.b.toNat 0) 0 true).n (some (t.nM z.1)))) (Bs:=[arr p 0 (bj (t.nM z.1)),aA (ps.set (d.tell (t.aI.getD d.i.a.toNat 0) (t.aI.getD d.i.b.toNat 0) 0 true).n none) ((d.tell (t.aI.getD d.i.a.toNat 0) (t.aI.getD d.i.b.toNat 0) 0 true).s.aF.set (d.tell (t.aI.getD d.i.a.toNat 0) (t.aI.getD d.i.b.toNat 0) 0 true).n none)]) .auto (cx (List.getElem?_eq_some_iff.1 ht).1 hp) ?_
     rw[jM ht hz,show d.told=d.tell (t.aI.getD d.i.a.toNat 0) (t.aI.getD d.i.b.toNat 0) 0 true from by unfold Dng.told;rw[if_neg h83,if_pos h94,ha,hb]]
     exact JR 0 ps
   ·refine JD 10 (fun h107=>?_) fun h107=>?_
    ·exact absurd (GZ (qy h107)) (by omega)
    ·obtain⟨z,hz⟩:=nT (Decidable.not_not.mp h107)
     rw[kR hz]
     refine J 2 ?_
     refine .draw [arr bd 0 (ee b p (d) vw ve),arr b4 0 (iM z.1)] [1,1,1,1,1,1,1,1,1,0,1,1,2,1,1,3] rfl (by kernel_rfl) ?_
     refine J 12 ?_
     refine .d2 rfl Kept.auto (af.KI (vs:=iM z.1) (by exact sizeOf165) rfl rfl rfl rfl) (by rintro _ _ ⟨rfl,rfl⟩;exact Kept.auto) ?_
     rintro _ _ ⟨rfl,rfl⟩
     rw[tz]
     refine J 2 ?_
     refine .d3 rfl (af.lY sizeOf47 rfl rfl rfl) ?_
     rintro _ _ ⟨rfl,rfl⟩
     rw[xO]
     refine J 1 ?_
     refine .to (A:=aA ps ((d).s.aF.set (d).n (some (t.nM z.1)))) (Bs:=[arr p 0 (bj (t.nM z.1)),aA (ps.set (d).n none) ((d).s.aF.set (d).n none)]) .auto (cx (List.getElem?_eq_some_iff.1 ht).1 hp) ?_
     rw[jM ht hz,show d.told=d from by unfold Dng.told;rw[if_neg h83,if_neg h94]]
     exact JR 0 ps
end Go.SLYthlllpngkljgfaaGreat
namespace Go.SLYthlllpngkljgfaaGreat
open Go Go.RowKit Go.Proofs Go.Proofs.Tryz
attribute [local irreducible] aq aS bc bx bC Y
theorem Fh{W:World}{b:Nat}{g:Gates}{who m:Int}(hg:gO g):Fn Tryz.prog W 234 [ptr b,.int .i64 who,.int .i64 m] [cv b g] Unit (fun _=>.tuple #[.bool (g.lock who m).1,.int .i64 (g.lock who m).2.1]) (fun _=>True) (fun _=>[cv b (g.lock who m).2.2]):=by
 refine Fn.intro (N:=27) func234 rfl ntmps234 rfl fun F=>?_
 show aq _ _ _ _ _ _ [cv b g,F]
 refine .o3 (C:=cv b g) .auto rfl ?_
 rintro vm vc vs -
 refine J 10 ?_
 refine .c call254 rfl ln fun _ _=>?_
 refine JD 12 (fun h12=>?_) fun h12=>?_
 ·refine J 9 ?_
  rw[vN (fP h12)]
  exact JR 0 ()
 ·refine J 2 ?_
  have hmhx:=fB h12
  rw[eY hmhx]
  obtain⟨x,hx,hgx⟩:=cC hmhx
  refine J 2 ?_
  refine .c call255 rfl (oh hg) fun _ _=>?_
  refine .fr .auto (oQ hx) ?_
  refine J 1 ?_
  apply aS.iw 4 23 19 [19,20,21,22,23] rfl
  ·intro h19
   refine J 2 ?_
   refine .cg call256 rfl um fun _ _=>?_
   exact JS 2
  ·intro h19
   exact JS 5
  refine JD 3 (fun h15=>?_) fun h15=>?_
  ·refine J 9 ?_
   rw[q8 hgx h15]
   refine .to (A:=dY vm g.dh) (Bs:=[eb (blk vm) (eg vm+m.toNat * 3) x,rH vm g.dh m.toNat]) .auto (oR hx) ?_
   exact JR 0 ()
  ·refine J 7 ?_
   refine .c call240 rfl (uo (Nat.le_trans (hg.mw x (List.mem_of_getElem? hx)) (by decide))) fun _ _=>?_
   refine J 5 ?_
   rw[vO hgx h15]
   refine .to (A:=dY vm (g.dh.set m.toNat (x.lock who).2)) (Bs:=[eb (blk vm) (eg vm+m.toNat * 3) (x.lock who).2,rH vm g.dh m.toNat]) .auto (tq (x.lock who).2) ?_
   exact JR 0 ()
theorem Ap{W:World}{b:Nat}{g:Gates}{who m c:Int}(hg:gO g):Fn Tryz.prog W 235 [ptr b,.int .i64 who,.int .i64 m,.int .i64 c] [cv b g] Unit (fun _=>.tuple #[.int .i64 (g.unlock who m c).1,.bool (g.unlock who m c).2.1,.int .i64 (g.unlock who m c).2.2.1]) (fun _=>True) (fun _=>[cv b (g.unlock who m c).2.2.2]):=by
 refine Fn.intro (N:=33) func235 rfl ntmps235 rfl fun F=>?_
 show aq _ _ _ _ _ _ [cv b g,F]
 refine .o3 (C:=cv b g) .auto rfl ?_
 rintro vm vc vs -
 refine J 11 ?_
 refine .c call254 rfl ln fun _ _=>?_
 refine JD 12 (fun h17=>?_) fun h17=>?_
 ·refine J 10 ?_
  rw[q9 (fP h17)]
  refine .j5 rfl rfl rfl rfl fun w s=>⟨(),?_,trivial,ai .auto s⟩
  rfl
 ·refine J 2 ?_
  have hmhx:=fB h17
  rw[eY hmhx]
  obtain⟨x,hx,hgx⟩:=cC hmhx
  refine .fr .auto (oQ hx) ?_
  refine J 2 ?_
  refine .c call256 rfl um fun _ _=>?_
  refine JD 4 (fun h20=>?_) fun h20=>?_
  ·refine J 10 ?_
   rw[oS hgx (by simpa using h20)]
   refine .to (A:=dY vm g.dh) (Bs:=[eb (blk vm) (eg vm+m.toNat * 3) x,rH vm g.dh m.toNat]) .auto (oR hx) ?_
   refine .j5 rfl rfl rfl rfl fun w s=>⟨(),?_,trivial,ai .auto s⟩
   rfl
  ·refine J 7 ?_
   refine .c call257 rfl (pT (hg.mw x (List.mem_of_getElem? hx))) fun _ _=>?_
   refine J 17 ?_
   rw[ra hgx (by simpa using h20)]
   refine .to (A:=dY vm (g.dh.set m.toNat (x.unlock c).2.2)) (Bs:=[eb (blk vm) (eg vm+m.toNat * 3) (x.unlock c).2.2,rH vm g.dh m.toNat]) .auto (tq (x.unlock c).2.2) ?_
   refine .j5 rfl rfl rfl rfl fun w s=>⟨(),?_,trivial,ai .auto s⟩
   rfl
theorem Fi{W:World}{b:Nat}{g:Gates}{who c m ch:Int}(hg:gO g):Fn Tryz.prog W 237 [ptr b,.int .i64 who,.int .i64 c,.int .i64 m,.int .i64 ch] [cv b g] Unit (fun _=>.tuple #[.int .i64 (g.wait who c m ch).1,.bool (g.wait who c m ch).2.1,.int .i64 (g.wait who c m ch).2.2.1]) (fun _=>True) (fun _=>[cv b (g.wait who c m ch).2.2.2]):=by
 refine Fn.intro (N:=52) func237 rfl ntmps237 rfl fun F=>?_
 show aq _ _ _ _ _ _ [cv b g,F]
 refine .o3 (C:=cv b g) .auto rfl ?_
 rintro vm vc vs -
 refine J 11 ?_
 refine .c call254 rfl ln fun _ _=>?_
 refine J 2 ?_
 refine .c call238 rfl wO fun _ _=>?_
 refine J 11 ?_
 apply aS.iw 3 29 26 [26,27,28,29] rfl
 ·intro h26
  exact JS 4
 ·intro h26
  exact JS 4
 refine JD 3 (fun h23=>?_) fun h23=>?_
 ·have hw:g.wait who c m ch=(0,false,1,g):=by
   rcases(Bool.or_eq_true _ _).mp h23 with h | h
   ·exact nO (fP h)
   ·exact nP (fP h)
  refine J 10 ?_
  rw[hw]
  refine .j5 rfl rfl rfl rfl fun w s=>⟨(),?_,trivial,ai .auto s⟩
  rfl
 ·refine J 2 ?_
  rw[Bool.or_eq_false_iff] at h23
  have hmhx:=fB h23.1
  rw[eY hmhx]
  obtain⟨x,hx,hgx⟩:=cC hmhx
  have hmhr:=fB h23.2
  rw[eY hmhr]
  obtain⟨r,hr,hgr⟩:=cC hmhr
  refine J 2 ?_
  refine .c call255 rfl (oh hg) fun _ _=>?_
  refine JD 3 (fun h30=>?_) fun h30=>?_
  ·refine J 10 ?_
   rw[zy hgx hgr h30]
   refine .j5 rfl rfl rfl rfl fun w s=>⟨(),?_,trivial,ai .auto s⟩
   rfl
  ·refine J 2 ?_
   refine .fr .auto (oQ hx) ?_
   refine J 2 ?_
   refine .c call256 rfl um fun _ _=>?_
   refine JD 4 (fun h34=>?_) fun h34=>?_
   ·refine J 10 ?_
    rw[nQ hgx hgr h30 (by simpa using h34)]
    refine .to (A:=dY vm g.dh) (Bs:=[eb (blk vm) (eg vm+m.toNat * 3) x,rH vm g.dh m.toNat]) .auto (oR hx) ?_
    refine .j5 rfl rfl rfl rfl fun w s=>⟨(),?_,trivial,ai .auto s⟩
    rfl
   ·refine J 7 ?_
    refine .c call257 rfl (pT (hg.mw x (List.mem_of_getElem? hx))) fun _ _=>?_
    refine J 9 ?_
    refine .to (A:=dY vm (g.dh.set m.toNat (x.unlock ch).2.2)) (Bs:=[eb (blk vm) (eg vm+m.toNat * 3) (x.unlock ch).2.2,rH vm g.dh m.toNat]) .auto (tq (x.unlock ch).2.2) ?_
    refine .fr .auto (CZ hr) ?_
    refine J 3 ?_
    refine .p (.gr (fun v1 v2=>[v1,v2]) rfl rfl (by kernel_rfl)) ?_
    refine .c call258 rfl (yq (x:=⟨who,m⟩) (Nat.le_trans (hg.cw r (List.mem_of_getElem? hr)) (by decide))) fun _ _=>?_
    refine J 12 ?_
    rw[qu hgx hgr h30 (by simpa using h34)]
    refine .to (A:=iu vc (g.gZ.set c.toNat (r++[⟨who,m⟩]))) (Bs:=[iL (blk vc) (eg vc+c.toNat * 1) (r++[⟨who,m⟩]),Es vc g.gZ c.toNat]) .auto (GQ (r++[⟨who,m⟩])) ?_
    refine .j5 rfl rfl rfl rfl fun w s=>⟨(),?_,trivial,ai .auto s⟩
    rfl
theorem Fj{W:World}{b:Nat}{g:Gates}{who s:Int}(hg:gO g)(hc:∀ x∈g.er,0≤x.count∧x.count≤1048576):Fn Tryz.prog W 243 [ptr b,.int .i64 who,.int .i64 s] [cv b g] Unit (fun _=>.tuple #[.bool (g.down who s).1,.int .i64 (g.down who s).2.1]) (fun _=>True) (fun _=>[cv b (g.down who s).2.2]):=by
 refine Fn.intro (N:=38) func243 rfl ntmps243 rfl fun F=>?_
 show aq _ _ _ _ _ _ [cv b g,F]
 refine .o3 (C:=cv b g) .auto rfl ?_
 rintro vm vc vs -
 refine J 10 ?_
 refine .c call261 rfl Ak fun _ _=>?_
 refine JD 12 (fun h12=>?_) fun h12=>?_
 ·refine J 9 ?_
  rw[vP (fP h12)]
  exact JR 0 ()
 ·refine J 2 ?_
  have hmhx:=fB h12
  rw[eY hmhx]
  obtain⟨x,hx,hgx⟩:=cC hmhx
  refine J 2 ?_
  refine .c call255 rfl (oh hg) fun _ _=>?_
  refine JD 3 (fun h15=>?_) fun h15=>?_
  ·refine J 9 ?_
   rw[zz hgx h15]
   exact JR 0 ()
  ·refine J 2 ?_
   refine .fr .auto (CY hx) ?_
   have hcx:=hc x (List.mem_of_getElem? hx)
   refine .o1 (C:=hD (blk vs) (eg vs+s.toNat * 2) x) .auto rfl ?_
   rintro u -
   refine JD 8 (fun h19=>?_) fun h19=>?_
   ·refine J 9 ?_
    refine .aj rfl (af.Nh sizeOf3 rfl rfl rfl rfl) ?_
    rintro _ _ ⟨rfl,rfl⟩
    refine J 11 ?_
    rw[vQ hgx h15 h19]
    refine .to (A:=fw vs (g.er.set s.toNat {x with count:=x.count-1 })) (Bs:=[hD (blk vs) (eg vs+s.toNat * 2) {x with count:=x.count-1 },zw vs g.er s.toNat]) .auto (tt {x with count:=x.count-1 }) ?_
    exact JR 0 ()
   ·refine J 7 ?_
    refine .fr .auto (oP (b:=blk vs) (o:=eg vs+s.toNat * 2) (u:=u)) ?_
    refine J 2 ?_
    refine .p (.hG (fun v1=>[v1,(.int .i64 0)]) rfl (by kernel_rfl)) ?_
    refine .c call258 rfl (yq (x:=⟨who,0⟩) (Nat.le_trans (hg.sw x (List.mem_of_getElem? hx)) (by decide))) fun _ _=>?_
    refine J 9 ?_
    rw[rf hgx h15 h19]
    refine .to (A:=hD (blk vs) (eg vs+s.toNat * 2) {x with wait:=x.wait++[⟨who,0⟩] }) (Bs:=[iL (blk vs) (eg vs+s.toNat * 2) (x.wait++[⟨who,0⟩]),arr (blk vs) (eg vs+s.toNat * 2+1) [.int .i64 x.count]]) .auto (rS (m:={x with wait:=x.wait++[⟨who,0⟩] })) ?_
    refine .to (A:=fw vs (g.er.set s.toNat {x with wait:=x.wait++[⟨who,0⟩] })) (Bs:=[hD (blk vs) (eg vs+s.toNat * 2) {x with wait:=x.wait++[⟨who,0⟩] },zw vs g.er s.toNat]) .auto (tt {x with wait:=x.wait++[⟨who,0⟩] }) ?_
    exact JR 0 ()
theorem Kk{W:World}{b:Nat}{g:Gates}{s c:Int}(hg:gO g)(hc:∀ x∈g.er,0≤x.count∧x.count≤1048576):Fn Tryz.prog W 242 [ptr b,.int .i64 s,.int .i64 c] [cv b g] Unit (fun _=>.tuple #[.int .i64 (g.up s c).1,.bool (g.up s c).2.1,.int .i64 (g.up s c).2.2.1]) (fun _=>True) (fun _=>[cv b (g.up s c).2.2.2]):=by
 refine Fn.intro (N:=40) func242 rfl ntmps242 rfl fun F=>?_
 show aq _ _ _ _ _ _ [cv b g,F]
 refine .o3 (C:=cv b g) .auto rfl ?_
 rintro vm vc vs -
 refine J 11 ?_
 refine .c call261 rfl Ak fun _ _=>?_
 refine JD 10 (fun h16=>?_) fun h16=>?_
 ·refine J 9 ?_
  rw[C0 (fP h16)]
  refine .j5 rfl rfl rfl rfl fun w s=>⟨(),?_,trivial,ai .auto s⟩
  rfl
 ·refine J 5 ?_
  have hmhx:=fB h16
  rw[eY hmhx]
  obtain⟨x,hx,hgx⟩:=cC hmhx
  refine .fr .auto (CY hx) ?_
  have hcx:=hc x (List.mem_of_getElem? hx)
  refine .o1 (C:=hD (blk vs) (eg vs+s.toNat * 2) x) .auto rfl ?_
  rintro u -
  refine .fr .auto (oP (b:=blk vs) (o:=eg vs+s.toNat * 2) (u:=u)) ?_
  refine J 4 ?_
  refine .c call239 rfl (uk (hg.sw x (List.mem_of_getElem? hx))) fun _ _=>?_
  refine J 3 ?_
  refine .aj rfl (af.alloc rfl zeroValue324 rfl) ?_
  rintro _ _ ⟨b10,rfl,rfl⟩
  refine JD 9 (fun h25=>?_) fun h25=>?_
  ·refine J 11 ?_
   rw[vR hgx h25]
   refine .to (A:=hD (blk vs) (eg vs+s.toNat * 2) {x with wait:=(aP x.wait c).2.2 }) (Bs:=[iL (blk vs) (eg vs+s.toNat * 2) (aP x.wait c).2.2,arr (blk vs) (eg vs+s.toNat * 2+1) [.int .i64 x.count]]) .auto (rS (m:={x with wait:=(aP x.wait c).2.2 })) ?_
   refine .to (A:=fw vs (g.er.set s.toNat {x with wait:=(aP x.wait c).2.2 })) (Bs:=[hD (blk vs) (eg vs+s.toNat * 2) {x with wait:=(aP x.wait c).2.2 },zw vs g.er s.toNat]) .auto (tt {x with wait:=(aP x.wait c).2.2 }) ?_
   refine .j5 rfl rfl rfl rfl fun w s=>⟨(),?_,trivial,ai .auto s⟩
   rfl
  ·have htw:=Et h25
   refine J 8 ?_
   refine .p (.ld rfl (Cell.az (cs:=[.int .i64 x.count]) rfl)) ?_
   refine JD 3 (fun h32=>?_) fun h32=>?_
   ·refine J 9 ?_
    rw[vS hgx h25 h32]
    rw[htw]
    refine .to (A:=hD (blk vs) (eg vs+s.toNat * 2) x) (Bs:=[iL (blk vs) (eg vs+s.toNat * 2) x.wait,arr (blk vs) (eg vs+s.toNat * 2+1) [.int .i64 x.count]]) .auto rS ?_
    refine .to (A:=fw vs g.er) (Bs:=[hD (blk vs) (eg vs+s.toNat * 2) x,zw vs g.er s.toNat]) .auto (GR hx) ?_
    refine .j5 rfl rfl rfl rfl fun w s=>⟨(),?_,trivial,ai .auto s⟩
    rfl
   ·refine J 7 ?_
    refine .p (.ld rfl (Cell.az (cs:=[.int .i64 x.count]) rfl)) ?_
    refine .p (.add rfl rfl (by omega)) ?_
    refine J 2 ?_
    refine .aj rfl (af.Nq sizeOf3 rfl rfl rfl rfl) ?_
    rintro _ _ ⟨rfl,rfl⟩
    refine J 10 ?_
    rw[C1 hgx h25 h32,htw]
    refine .to (A:=hD (blk vs) (eg vs+s.toNat * 2) {x with count:=x.count+1 }) (Bs:=[iL (blk vs) (eg vs+s.toNat * 2) x.wait,arr (blk vs) (eg vs+s.toNat * 2+1) [.int .i64 (x.count+1)]]) .auto (rS (m:={x with count:=x.count+1 })) ?_
    refine .to (A:=fw vs (g.er.set s.toNat {x with count:=x.count+1 })) (Bs:=[hD (blk vs) (eg vs+s.toNat * 2) {x with count:=x.count+1 },zw vs g.er s.toNat]) .auto (tt {x with count:=x.count+1 }) ?_
    refine .j5 rfl rfl rfl rfl fun w s=>⟨(),?_,trivial,ai .auto s⟩
    rfl
theorem rB{W:World}{b:Nat}{g:Gates}{c ch:Int}{all:Bool}(hg:gO g)(hm:∀ r∈g.gZ, ∀ w∈r,0≤w.mutex∧w.mutex<(g.dh.length:Int)):Fn Tryz.prog W 215 [ptr b,.int .i64 c,.int .i64 ch,.bool all] [cv b g] Value (fun u=>.tuple #[u,.int .i64 (g.signal c ch all).2.1]) (fun _=>True) (fun u=>[sl au 1 u (g.signal c ch all).1,cv b (g.signal c ch all).2.2]):=by
 refine Fn.intro (N:=58) func215 rfl ntmps215 rfl fun F=>?_
 show aq _ _ _ _ _ _ [cv b g,F]
 refine .o3 (C:=cv b g) .auto rfl ?_
 rintro vm vc vs -
 refine J 10 ?_
 refine .c call238 rfl wO fun _ _=>?_
 refine JD 10 (fun h19=>?_) fun h19=>?_
 ·refine J 8 ?_
  rw[rb (fP h19)]
  exact JR 0 (Value.slice none 0 0)
 ·refine J 4 ?_
  have hmhr:=fB h19
  rw[eY hmhr]
  obtain⟨r,hr,hgr⟩:=cC hmhr
  refine .fr .auto (CZ hr) ?_
  have hrl:=hg.cw r (List.mem_of_getElem? hr)
  have hrm:=hm r (List.mem_of_getElem? hr)
  refine .o1 (C:=iL (blk vc) (eg vc+c.toNat * 1) r) .auto rfl ?_
  rintro u0 -
  refine J 5 ?_
  refine .p (.jK rfl rfl) ?_
  refine J 3 ?_
  refine .FT (X:=Unit) [2,11,26,27,28,29,30,31] (fun _=>True) (fun _=>[(11,some (.int .i64 (((if all=true then r.length else min r.length 1):Nat):Int))),(2,some (.int .i64 (if all=true then 0 else ch)))]) (fun _=>[arr (blk vc) (eg vc+c.toNat * 1) [u0],sl dn 2 u0 r,Es vc g.gZ c.toNat,arr b 0 [vm,vc,vs],dY vm g.dh,fw vs g.er,F]) ?_ ?_
  ·refine JD 5 (fun h26=>?_) fun h26=>?_
   ·refine J 9 ?_
    refine .nj () .auto ?_ ?_ ?_
    ·trivial
    ·subst h26;exact⟨rfl,rfl,trivial⟩
    ·exact fun w s=>ax.kept .auto w s
   ·refine J 1 ?_
    refine .nj () .auto ?_ ?_ ?_
    ·trivial
    ·rw[if_neg (by rw[h26];simp),if_neg (by rw[h26];simp)];exact⟨by show some _=some _;congr 2;omega,rfl,trivial⟩
    ·exact fun w s=>ax.kept .auto w s
  ·rintro⟨⟩ -
   obtain⟨n0,hn0⟩:∃ n0,n0=(if all=true then r.length else min r.length 1):=⟨_,rfl⟩
   obtain⟨c2,hc2⟩:∃ c2,c2=(if all=true then 0 else ch):=⟨_,rfl⟩
   have h0:n0≤r.length:=by subst hn0;split <;> omega
   rw[← hn0, ← hc2]
   refine J 13 ?_
   refine .bn (X:=Nat×List eS×List eI×Value×List Int) [12,13,14,33,34,35,36,37,38,39,40,41,42,43,44,45,46,47,48,49,50,51,52,53,54,55,56] (fun z=>n0-z.1) (fun z=>oT r g.dh n0 c2 z.1 z.2.1 z.2.2.1 z.2.2.2.2) (fun z=>[(33,some (.int .i64 (z.1:Int))),(12,some z.2.2.2.1)]) (fun z=>[iL (blk vc) (eg vc+c.toNat * 1) z.2.1,dY vm z.2.2.1,sl au 1 z.2.2.2.1 z.2.2.2.2,Es vc g.gZ c.toNat,arr b 0 [vm,vc,vs],fw vs g.er,F]) (0,r,g.dh,.slice none 0 0,[]) ?_ ?_ ?_ ?_
   ·exact oT.zero hg.mw
   ·exact⟨rfl,rfl,trivial⟩
   ·exact fun w s=>ax.kept .auto w s
   rintro⟨k,r1,ms,u,out⟩ hS
   simp only at hS
   refine JD 6 (fun h34=>?_) fun h34=>?_
   ·simp only at h34
    refine J 8 ?_
    refine .c call239 rfl (uk (l:=r1) (by have:=hS.len;omega)) fun _ _=>?_
    refine J 3 ?_
    refine .aj rfl (af.alloc rfl zeroValue324 rfl) ?_
    rintro _ _ ⟨b13,rfl,rfl⟩
    refine J 5 ?_
    refine .draw [] [1,1,1,1,1,1,1,1,1,3] rfl (by kernel_rfl) ?_
    obtain⟨hw1,hw2,hw3⟩:=kl (l:=r1) (c:=c2) (by have:=hS.len;omega)
    have hwm:=hrm _ (hS.mem _ hw1)
    have hml:=hS.ml
    obtain⟨x,hx⟩:=ak (show(aP r1 c2).1.mutex.toNat<ms.length by omega)
    have hxl:=hS.mw x (List.mem_of_getElem? hx)
    refine .o1 (C:=dY vm ms) .auto rfl ?_
    rintro xs hxs
    have hxsl:=aE hxs
    refine J 6 ?_
    refine .p (.sM (aP r1 c2).1.mutex.toNat underlying196 sizeOf328 rfl rfl Rd.s (by omega) (by omega)) ?_
    refine J 2 ?_
    refine .to (A:=dY vm ms) .auto (Bs:=[sl lM 3 vm xs,aD (fun x=>sl dn 2 x.1 x.2.wait) xs]) (fun h a=>⟨xs,hxs,a⟩) ?_
    refine .fr .auto (oQ hx) ?_
    refine .c call240 rfl (uo (m:=x) (by omega)) fun _ _=>?_
    refine .to (A:=dY vm (ms.set (aP r1 c2).1.mutex.toNat (x.lock (aP r1 c2).1.who).2)) (Bs:=[eb (blk vm) (eg vm+(aP r1 c2).1.mutex.toNat * 3) (x.lock (aP r1 c2).1.who).2,rH vm ms (aP r1 c2).1.mutex.toNat]) .auto (tq (x.lock (aP r1 c2).1.who).2) ?_
    have hnx:=hS.next (by omega) h0
    have hsl:Bp r1 c2 ms=x.lock (aP r1 c2).1.who:=by unfold Bp;rw[bA hx]
    rw[hsl] at hnx
    refine JD 2 (fun h50=>?_) fun h50=>?_
    ·rw[if_pos h50] at hnx
     refine J 4 ?_
     refine .aj rfl (af.gI 3 rfl rfl (by kernel_rfl)) ?_
     rintro _ _ ⟨b54,rfl,rfl⟩
     refine .aj rfl (af.gg (enc:=au) (k:=1) (aP r1 c2).1.who rfl underlying50 underlying50 typeInfo3 rfl rfl rfl (by decide) rfl rfl rfl .auto rfl .auto (by have:=hS.ol;have:=hS.hk;dsimp only;omega) rfl) ?_
     rintro _ _ ⟨v55,rfl,rfl⟩
     refine J 8 ?_
     refine .aL (k+1,(aP r1 c2).2.2,ms.set (aP r1 c2).1.mutex.toNat (x.lock (aP r1 c2).1.who).2,v55,out++[(aP r1 c2).1.who]) .auto rfl ?_ ?_ ?_ ?_
     ·show n0-(k+1)<n0-k;omega
     ·exact hnx
     ·exact⟨rfl,rfl,trivial⟩
     ·exact fun w s=>ax.kept .auto w s
    ·rw[if_neg (by rw[h50];simp)] at hnx
     refine J 7 ?_
     refine .aL (k+1,(aP r1 c2).2.2,ms.set (aP r1 c2).1.mutex.toNat (x.lock (aP r1 c2).1.who).2,u,out) .auto rfl ?_ ?_ ?_ ?_
     ·show n0-(k+1)<n0-k;omega
     ·exact hnx
     ·exact⟨rfl,rfl,trivial⟩
     ·exact fun w s=>ax.kept .auto w s
   ·simp only at h34
    refine J 13 ?_
    rw[re (z:=(r1,ms,out)) hgr (by rw[← hn0, ← hc2];exact hS.done (by omega))]
    refine .to (A:=iu vc (g.gZ.set c.toNat r1)) (Bs:=[iL (blk vc) (eg vc+c.toNat * 1) r1,Es vc g.gZ c.toNat]) .auto (GQ r1) ?_
    exact JR 0 u
theorem Fk{W:World}{b:Nat}{l:List eI}{n:Int}{vm vc vs:Value}:Fn Tryz.prog W 260 [ptr b,.int .i64 1,.int .i64 n] [arr b 0 [vm,vc,vs],dY vm l] Unit (fun _=>KJ vm l.length 3 n) (fun _=>True) (fun _=>[arr b 0 [vm,vc,vs],dY vm l]):=by
 refine Fn.intro (N:=35) func260 rfl ntmps260 rfl fun F=>?_
 show aq _ _ _ _ _ _ [arr b 0 [vm,vc,vs],dY vm l,F]
 refine J 18 ?_
 refine .dX rfl (fun _=>?_) (fun hc=>absurd rfl hc)
 refine J 4 ?_
 refine .c call254 rfl ln fun _ _=>?_
 refine JD 9 (fun h16=>?_) fun h16=>?_
 ·refine J 2 ?_
  have hm:=zx h16
  rw[eY hm]
  exact JR 9 ()
 ·refine J 9 ?_
  refine .aG rfl rfl fun w s=>⟨(),?_,trivial,ai .auto s⟩
  rw[rU (Bo h16)]
theorem vf{W:World}{b:Nat}{g:Gates}{n:Nat}{x:eI}(hx:g.dh[n]?=some x)(hl:x.wait.length≤1000000):Fn Tryz.prog W 241 [ptr b,.int .i64 1,.int .i64 (n:Int)] [cv b g] Value (fun u=>u) (fun _=>True) (fun u=>[sl au 1 u (x.wait.map (·.who)),cv b g]):=by
 refine Fn.intro (N:=33) func241 rfl ntmps241 rfl fun F=>?_
 show aq _ _ _ _ _ _ [cv b g,F]
 refine .o3 (C:=cv b g) .auto rfl ?_
 rintro vm vc vs -
 have hn:=(List.getElem?_eq_some_iff.1 hx).1
 refine J 10 ?_
 refine .c call260 rfl Fk fun _ _=>?_
 refine JD 10 (fun h16=>?_) fun h16=>?_
 ·exact absurd (show(0:Int)≤(n:Int)∧(n:Int)<(g.dh.length:Int) by omega) (fP h16)
 ·refine J 10 ?_
  rw[eY (by omega),Int.toNat_natCast]
  refine .fr .auto (oQ hx) ?_
  refine .o1 (C:=eb (blk vm) (eg vm+n * 3) x) .auto rfl ?_
  rintro u0 -
  refine J 9 ?_
  refine .bn (X:=Nat×Value) [8,10,22,23,24,25,26,27,28,29,30,31] (fun z=>x.wait.length-z.1) (fun z=>z.1≤x.wait.length) (fun z=>[(22,some (.int .i64 (z.1:Int))),(8,some z.2)]) (fun z=>[sl au 1 z.2 ((x.wait.map (·.who)).take z.1),arr (blk vm) (eg vm+n * 3) [u0,.bool x.held,.int .i64 x.owner],sl dn 2 u0 x.wait,rH vm g.dh n,arr b 0 [vm,vc,vs],iu vc g.gZ,fw vs g.er,F]) (0,.slice none 0 0) ?_ ?_ ?_ ?_
  ·exact Nat.zero_le _
  ·exact⟨rfl,rfl,trivial⟩
  ·exact fun w s=>ax.kept .auto w s
  rintro⟨k,u⟩ hk
  simp only at hk
  refine JD 6 (fun h23=>?_) fun h23=>?_
  ·refine J 6 ?_
   obtain⟨w,hw⟩:=ak (show k<x.wait.length by omega)
   refine J 2 ?_
   refine .aj rfl (af.alloc rfl zeroValue324 rfl) ?_
   rintro _ _ ⟨b10,rfl,rfl⟩
   refine J 7 ?_
   refine .aj rfl (af.gI 3 rfl rfl (by kernel_rfl)) ?_
   rintro _ _ ⟨b29,rfl,rfl⟩
   refine .aj rfl (af.gg (enc:=au) (k:=1) w.who rfl underlying50 underlying50 typeInfo3 rfl rfl rfl (by decide) rfl rfl rfl .auto rfl .auto (by rw[List.length_take,List.length_map];omega) rfl) ?_
   rintro _ _ ⟨v30,rfl,rfl⟩
   refine J 8 ?_
   refine .aL (k+1,v30) .auto rfl ?_ ?_ ?_ ?_
   ·show x.wait.length-(k+1)<x.wait.length-k;omega
   ·show k+1≤_;omega
   ·exact⟨rfl,rfl,trivial⟩
   ·show ∀ w,Sat _ w _→Sat _ w (seps [sl au 1 v30 ((x.wait.map (·.who)).take (k+1)),_,_,_,_,_,_,F])
    rw[aX (show(x.wait.map (·.who))[k]?=some w.who by rw[List.getElem?_map,hw];rfl)]
    exact fun w s=>ax.kept .auto w s
  ·refine J 12 ?_
   obtain rfl:k=x.wait.length:=by omega
   rw[List.take_of_length_le (by simp)]
   refine .to (A:=dY vm g.dh) (Bs:=[eb (blk vm) (eg vm+n * 3) x,rH vm g.dh n]) .auto (oR hx) ?_
   refine .aG rfl rfl fun w s=>⟨_,?_,trivial,ai .auto s⟩
   rfl
end Go.SLYthlllpngkljgfaaGreat
namespace Go.SLYthlllpngkljgfaaGreat
open Go Go.RowKit Go.Proofs Go.Proofs.Tryz
attribute [local irreducible] aq aS bc bx bC Y
theorem Iv{W:World}{A:aa}{x:Ptr}{c:Nat}{who:Int}:Fn Tryz.prog W 302 [.agg (lK x).toArray,ptr c] [seps [arr c 0 [.int .i64 who],A]] Unit (fun _=>.bool (decide (x.who=who))) (fun _=>True) (fun _=>[seps [arr c 0 [.int .i64 who],A]]):=by
 refine Fn.intro (N:=8) func302 rfl ntmps302 rfl fun F=>?_
 show aq _ _ _ _ _ _ [seps [arr c 0 [.int .i64 who],A],F]
 refine .dq .auto ?_
 refine J 2 ?_
 refine .aj rfl (af.box rfl rfl rfl) ?_
 rintro _ _ ⟨b2,rfl,rfl⟩
 exact JR 13 ()
theorem uq{W:World}{b:Nat}{t:Tub}{who:Int}(hl:tu t):Fn Tryz.prog W 285 [ptr b,.int .i64 who] [iv b t] Unit (fun _=>.bool (t.waits who)) (fun _=>True) (fun _=>[iv b t]):=by
 refine Fn.intro (N:=19) func285 rfl ntmps285 rfl fun F=>?_
 show aq _ _ _ _ _ _ [iv b t,F]
 refine .o3 (C:=iv b t) .auto rfl ?_
 rintro vw vp vg -
 obtain⟨hl1,hl2,hl3⟩:=hl
 refine J 2 ?_
 refine .aj rfl (af.box rfl rfl rfl) ?_
 rintro _ _ ⟨b3,rfl,rfl⟩
 refine J 4 ?_
 refine .draw [] [1,1,1,1,1,3,1,1,1,1,1,1,3,1,1] rfl (by kernel_rfl) ?_
 refine J 5 ?_
 refine .c call106 rfl (wL (A:=sl au 1 vg t.gM) (Rd.sl .here) (by omega)) fun _ _=>?_
 refine J 1 ?_
 apply bc.iw 7 18 11 [11,12,13,14,15,16,17,18] rfl
 ·intro h11
  refine J 4 ?_
  refine .g (.makeFunc rfl rfl) ?_
  refine .dg rfl rfl rfl (af.eH rfl call301 rfl (uZ (A:=seps [arr b3 0 [.int .i64 who],sl lK 2 vp t.hM]) (p:=fun p=>decide (p.who=who)) (Rd.ez (Rd.sl (.there .here))) (by omega) call302 (fun x _=>Iv)) .auto) ?_
  rintro _ _ ⟨⟨⟩, -,rfl,rfl⟩
  refine .dq .auto ?_
  exact JS 2
 ·intro h11
  refine J 5 ?_
  refine .Mz rfl rfl rfl rfl ?_
  exact JS 2
 exact JR 4 ()
theorem L6{W:World}{b i:Nat}{cs:List Value}{v:Value}{xs:List Int}{x:Int}(hi:cs[i]?=some v)(hx:xs[0]?=some x)(hl:xs.length≤1000000):Fn Tryz.prog W 286 [.pointer (some ⟨b,i,none⟩)] [arr b 0 cs,sl au 1 v xs] Value (fun _=>.int .i64 x) (fun _=>True) (fun u=>[arr b 0 (cs.set i u),sl au 1 u (xs.eraseIdx 0)]):=by
 refine Fn.intro (N:=16) func286 rfl ntmps286 rfl fun F=>?_
 show aq _ _ _ _ _ _ [arr b 0 cs,sl au 1 v xs,F]
 have hil:=(List.getElem?_eq_some_iff.1 hi).1
 have hxl:=(List.getElem?_eq_some_iff.1 hx).1
 refine J 9 ?_
 refine .p (.ld rfl (Cell.a hi)) ?_
 refine J 10 ?_
 refine .p (.ld rfl (Cell.a hi)) ?_
 refine .c call221 rfl (yo (i:=0) hxl (by omega)) fun u13 _=>?_
 refine J 1 ?_
 refine .aj rfl (af.lY sizeOf50 rfl rfl (Nat.blt_eq.mpr hil)) ?_
 rintro _ _ ⟨rfl,rfl⟩
 exact JR 9 u13
theorem L7{W:World}{b i:Nat}{cs:List Value}{v:Value}{xs:List Int}{x:Int}(hi:cs[i]?=some v)(hx:xs[0]?=some x)(hl:xs.length≤1000000):Fn Tryz.prog W 287 [.pointer (some ⟨b,i,none⟩)] [arr b 0 cs,sl cO 1 v xs] Value (fun _=>.int .u64 x) (fun _=>True) (fun u=>[arr b 0 (cs.set i u),sl cO 1 u (xs.eraseIdx 0)]):=by
 refine Fn.intro (N:=16) func287 rfl ntmps287 rfl fun F=>?_
 show aq _ _ _ _ _ _ [arr b 0 cs,sl cO 1 v xs,F]
 have hil:=(List.getElem?_eq_some_iff.1 hi).1
 have hxl:=(List.getElem?_eq_some_iff.1 hx).1
 refine J 9 ?_
 refine .p (.ld rfl (Cell.a hi)) ?_
 refine J 10 ?_
 refine .p (.ld rfl (Cell.a hi)) ?_
 refine .c call303 rfl (Kd (i:=0) hxl (by omega)) fun u13 _=>?_
 refine J 1 ?_
 refine .aj rfl (af.lY sizeOf47 rfl rfl (Nat.blt_eq.mpr hil)) ?_
 rintro _ _ ⟨rfl,rfl⟩
 exact JR 9 u13
theorem L8{W:World}{b i:Nat}{cs:List Value}{v:Value}{xs:List Ptr}{x:Ptr}(hi:cs[i]?=some v)(hx:xs[0]?=some x)(hl:xs.length≤1000000):Fn Tryz.prog W 288 [.pointer (some ⟨b,i,none⟩)] [arr b 0 cs,sl lK 2 v xs] Value (fun _=>.agg (lK x).toArray) (fun _=>True) (fun u=>[arr b 0 (cs.set i u),sl lK 2 u (xs.eraseIdx 0)]):=by
 refine Fn.intro (N:=16) func288 rfl ntmps288 rfl fun F=>?_
 show aq _ _ _ _ _ _ [arr b 0 cs,sl lK 2 v xs,F]
 have hil:=(List.getElem?_eq_some_iff.1 hi).1
 have hxl:=(List.getElem?_eq_some_iff.1 hx).1
 refine J 2 ?_
 refine .aj rfl (af.alloc rfl zeroValue368 rfl) ?_
 rintro _ _ ⟨b2,rfl,rfl⟩
 refine J 6 ?_
 refine .p (.ld rfl (Cell.a hi)) ?_
 refine J 2 ?_
 refine .aj rfl (af.alloc rfl zeroValue368 rfl) ?_
 rintro _ _ ⟨b3,rfl,rfl⟩
 refine J 8 ?_
 refine .p (.ld rfl (Cell.a hi)) ?_
 refine .c call304 rfl (Kc (i:=0) hxl (by omega)) fun u13 _=>?_
 refine J 1 ?_
 refine .aj rfl (af.lY sizeOf213 rfl rfl (Nat.blt_eq.mpr hil)) ?_
 rintro _ _ ⟨rfl,rfl⟩
 refine J 9 ?_
 refine .dN rfl rfl isAgg368 (by exact sizeOf368) Cells.a fun w s=>⟨u13,?_,trivial,ai .auto s⟩
 rfl
theorem Iw{W:World}{b:Nat}{t:Tub}{who:Int}(hl:tu t){x:Int}:Fn Tryz.prog W 263 [ptr b,.int .i64 who,.int .u64 x] [iv b t] Unit (fun _=>.tuple #[.bool (t.put who x).1,.int .i64 (t.put who x).2.1,.bool (t.put who x).2.2.1]) (fun _=>True) (fun _=>[iv b (t.put who x).2.2.2]):=by
 refine Fn.intro (N:=61) func263 rfl ntmps263 rfl fun F=>?_
 show aq _ _ _ _ _ _ [iv b t,F]
 refine J 16 ?_
 refine .cg call285 rfl (uq hl) fun _ _=>?_
 refine JD 4 (fun h9=>?_) fun h9=>?_
 ·refine J 10 ?_
  rw[vT h9]
  refine .j5 rfl rfl rfl rfl fun w s=>⟨(),?_,trivial,ai .auto s⟩
  rfl
 ·refine J 2 ?_
  refine .o3 (C:=iv b t) .auto rfl ?_
  rintro vw vp vg -
  obtain⟨hl1,hl2,hl3⟩:=hl
  refine JD 9 (fun h17=>?_) fun h17=>?_
  ·refine J 2 ?_
   obtain⟨w,r,hw⟩:=xM (l:=t.gM) (by omega)
   refine J 3 ?_
   refine .c call286 rfl (L6 (i:=3) (v:=vg) (xs:=t.gM) (x:=w) rfl (by rw[hw];rfl) (by omega)) fun u27 _=>?_
   rw[show t.gM.eraseIdx 0=r from by rw[hw];rfl]
   refine J 8 ?_
   rw[rW h9 hw]
   refine .j5 rfl rfl rfl rfl fun w s=>⟨(),?_,trivial,ai .auto s⟩
   rfl
  ·refine J 1 ?_
   refine .draw [] [1,1,1,1,1,1,1,1,1,1,1] rfl (by kernel_rfl) ?_
   have hg0:t.gM=[]:=Bq (by omega)
   refine JD 13 (fun h28=>?_) fun h28=>?_
   ·refine J 8 ?_
    refine .aj rfl (af.gI 110 rfl rfl (by kernel_rfl)) ?_
    rintro _ _ ⟨b45,rfl,rfl⟩
    refine .aj rfl (af.gg (enc:=cO) (k:=1) x rfl underlying47 underlying47 typeInfo110 rfl rfl rfl (by decide) rfl rfl rfl .auto rfl .auto (by omega) rfl) ?_
    rintro _ _ ⟨v46,rfl,rfl⟩
    refine J 2 ?_
    refine .aj rfl (af.lY sizeOf47 rfl rfl rfl) ?_
    rintro _ _ ⟨rfl,rfl⟩
    refine J 12 ?_
    rw[oU h9 hg0 h28]
    refine .j5 rfl rfl rfl rfl fun w s=>⟨(),?_,trivial,ai .auto s⟩
    rfl
   ·refine J 12 ?_
    refine .p (.gr (fun v1 v2=>[v1,v2]) rfl rfl (by kernel_rfl)) ?_
    refine .aj rfl (af.gI 368 rfl rfl (by kernel_rfl)) ?_
    rintro _ _ ⟨b57,rfl,rfl⟩
    refine .aj rfl (af.gg (enc:=lK) (k:=2) (⟨who,x⟩:Ptr) rfl underlying213 underlying213 typeInfo368 rfl rfl rfl (by decide) rfl rfl rfl .auto rfl .auto (by omega) rfl) ?_
    rintro _ _ ⟨v58,rfl,rfl⟩
    refine J 2 ?_
    refine .aj rfl (af.lY sizeOf213 rfl rfl rfl) ?_
    rintro _ _ ⟨rfl,rfl⟩
    refine J 10 ?_
    rw[oV h9 hg0 h28]
    refine .j5 rfl rfl rfl rfl fun w s=>⟨(),?_,trivial,ai .auto s⟩
    rfl
theorem Ix{W:World}{b:Nat}{t:Tub}{who:Int}(hl:tu t):Fn Tryz.prog W 264 [ptr b,.int .i64 who] [iv b t] Unit (fun _=>.tuple #[.int .u64 (t.get who).1,.bool (t.get who).2.1,.int .i64 (t.get who).2.2.1,.bool (t.get who).2.2.2.1]) (fun _=>True) (fun _=>[iv b (t.get who).2.2.2.2]):=by
 refine Fn.intro (N:=64) func264 rfl ntmps264 rfl fun F=>?_
 show aq _ _ _ _ _ _ [iv b t,F]
 refine J 17 ?_
 refine .cg call285 rfl (uq hl) fun _ _=>?_
 refine JD 4 (fun h10=>?_) fun h10=>?_
 ·refine J 11 ?_
  rw[qv h10]
  refine .Jb rfl rfl rfl rfl rfl fun w s=>⟨(),?_,trivial,ai .auto s⟩
  rfl
 ·refine J 2 ?_
  refine .o3 (C:=iv b t) .auto rfl ?_
  rintro vw vp vg -
  obtain⟨hl1,hl2,hl3⟩:=hl
  refine JD 9 (fun h18=>?_) fun h18=>?_
  ·refine J 2 ?_
   have hw0:t.words=[]:=Bq (by omega)
   refine J 6 ?_
   refine .aj rfl (af.gI 3 rfl rfl (by kernel_rfl)) ?_
   rintro _ _ ⟨b31,rfl,rfl⟩
   refine .aj rfl (af.gg (enc:=au) (k:=1) who rfl underlying50 underlying50 typeInfo3 rfl rfl rfl (by decide) rfl rfl rfl .auto rfl .auto (by omega) rfl) ?_
   rintro _ _ ⟨v32,rfl,rfl⟩
   refine J 2 ?_
   refine .aj rfl (af.lY sizeOf50 rfl rfl rfl) ?_
   rintro _ _ ⟨rfl,rfl⟩
   refine J 13 ?_
   rw[get_none h10 hw0]
   refine .Jb rfl rfl rfl rfl rfl fun w s=>⟨(),?_,trivial,ai .auto s⟩
   rfl
  ·refine J 5 ?_
   obtain⟨x,r,hw⟩:=xM (l:=t.words) (by omega)
   refine J 3 ?_
   refine .c call287 rfl (L7 (i:=1) (v:=vw) (xs:=t.words) (x:=x) rfl (by rw[hw];rfl) (by omega)) fun u38 _=>?_
   rw[show t.words.eraseIdx 0=r from by rw[hw];rfl]
   refine JD 14 (fun h44=>?_) fun h44=>?_
   ·refine J 11 ?_
    rw[oW h10 hw (Bq (by omega))]
    refine .Jb rfl rfl rfl rfl rfl fun w s=>⟨(),?_,trivial,ai .auto s⟩
    rfl
   ·refine J 4 ?_
    obtain⟨p,q,hp⟩:=xM (l:=t.hM) (by omega)
    refine J 3 ?_
    refine .c call288 rfl (L8 (i:=2) (v:=vp) (xs:=t.hM) (x:=p) rfl (by rw[hp];rfl) (by omega)) fun u49 _=>?_
    rw[show t.hM.eraseIdx 0=q from by rw[hp];rfl]
    refine .aj rfl (af.alloc rfl zeroValue368 rfl) ?_
    rintro _ _ ⟨b9,rfl,rfl⟩
    refine J 4 ?_
    refine .draw [arr b 0 [.int .i64 t.room,u38,u49,vg],arr b9 0 (lK p)] [0,0,0,0,0,1,1,2,2,1,1,3] rfl (by kernel_rfl) ?_
    refine J 7 ?_
    refine .d2 rfl Kept.auto (af.gI 110 rfl rfl (by kernel_rfl)) (by rintro _ _ ⟨b57,rfl,rfl⟩;exact Kept.auto) ?_
    rintro _ _ ⟨b57,rfl,rfl⟩
    refine .d2 rfl Kept.auto (af.gg (enc:=cO) (k:=1) p.x rfl underlying47 underlying47 typeInfo110 rfl rfl rfl (by decide) rfl rfl rfl .auto rfl .auto (by have h5:r.length+1=t.words.length:=(by rw[hw];rfl);omega) rfl) (by rintro _ _ ⟨v58,rfl,rfl⟩;exact Kept.auto) ?_
    rintro _ _ ⟨v58,rfl,rfl⟩
    refine J 2 ?_
    refine .d3 rfl (af.lY sizeOf47 rfl rfl rfl) ?_
    rintro _ _ ⟨rfl,rfl⟩
    refine J 3 ?_
    refine .draw [] [1,1,1,1,1,1,1] rfl (by kernel_rfl) ?_
    refine J 10 ?_
    rw[oX h10 hw hp]
    refine .Jb rfl rfl rfl rfl rfl fun w s=>⟨(),?_,trivial,ai .auto s⟩
    rfl
theorem Fl{W:World}{k:Int}{n:Nat}(hn:0<n)(hl:n≤1000000000):Fn Tryz.prog W 150 [.int .i64 k,.int .i64 (n:Int)] [] Unit (fun _=>.int .i64 ((pick k n:Nat):Int)) (fun _=>True) (fun _=>[]):=by
 refine Fn.intro (N:=12) func150 rfl ntmps150 rfl fun F=>?_
 show aq _ _ _ _ _ _ [F]
 refine J 9 ?_
 refine .p (.rem rfl rfl (by omega)) ?_
 refine J 1 ?_
 refine .p (.add rfl rfl (CV hn hl)) ?_
 refine J 1 ?_
 refine .p (.fq (Y.rem rfl rfl (by omega)) (oN hn)) ?_
 exact JR 4 ()
theorem Nc{W:World}{A:aa}{x r:vC}{c:Nat}:Fn Tryz.prog W 284 [.agg (gJ x).toArray,ptr c] [seps [arr c 0 (gJ r),A]] Unit (fun _=>.bool (decide (x.who=r.who))) (fun _=>True) (fun _=>[seps [arr c 0 (gJ r),A]]):=by
 refine Fn.intro (N:=9) func284 rfl ntmps284 rfl fun F=>?_
 show aq _ _ _ _ _ _ [seps [arr c 0 (gJ r),A],F]
 refine .dq .auto ?_
 refine J 2 ?_
 refine .aj rfl (af.box rfl rfl rfl) ?_
 rintro _ _ ⟨b2,rfl,rfl⟩
 refine .mem (H':=[arr b2 0 (gJ x),arr c 0 (gJ r),A,F]) (fun w s=>s) ?_
 exact JR 14 ()
theorem Iy{W:World}{b:Nat}{d:kF}{r:vC}(hl:d.wait.length≤1000000):Fn Tryz.prog W 262 [ptr b,.agg (gJ r).toArray] [oH b d] Unit (fun _=>.int .i64 (d.ask r).1) (fun _=>True) (fun _=>[oH b (d.ask r).2]):=by
 refine Fn.intro (N:=40) func262 rfl ntmps262 rfl fun F=>?_
 show aq _ _ _ _ _ _ [oH b d,F]
 refine .o2 (C:=oH b d) .auto rfl ?_
 rintro vb vw -
 refine J 2 ?_
 refine .aj rfl (af.box rfl rfl rfl) ?_
 rintro _ _ ⟨b3,rfl,rfl⟩
 refine .mem (H':=[arr b3 0 (gJ r),arr b 0 [vb,vw],sl cO 1 vb d.blocks,sl gJ 4 vw d.wait,F]) (fun w s=>s) ?_
 refine J 6 ?_
 refine .draw [] [1,1,1,1,1,1,1,1,1,1,1,1,1,1,1,1,1,1] rfl (by kernel_rfl) ?_
 refine J 8 ?_
 apply bc.gf 9 22 13 [13,14,15,16,17,18,19,20,21,22] rfl
 ·intro h13
  exact JS 10
 ·intro h13
  exact JS 10
 refine JD 3 (fun h5=>?_) fun h5=>?_
 ·refine J 8 ?_
  rw[C2 h5]
  exact JR 0 ()
 ·refine J 6 ?_
  refine .p (.makeFunc rfl rfl) ?_
  refine .c call283 rfl (uY (A:=seps [arr b3 0 (gJ r),sl gJ 4 vw d.wait]) (p:=fun x=>decide (x.who=r.who)) (Rd.ez (Rd.sl (.there .here))) (by omega) call284 (fun x _=>Nc)) fun _ _=>?_
  refine .dq .auto ?_
  refine JD 3 (fun h23=>?_) fun h23=>?_
  ·refine J 8 ?_
   rw[GV h5 h23]
   exact JR 0 ()
  ·refine J 4 ?_
   refine .draw [arr b 0 [vb,vw],arr b3 0 (gJ r)] [0,0,0,0,0,1,2,2,1,1,3] rfl (by kernel_rfl) ?_
   refine J 6 ?_
   refine .d2 rfl Kept.auto (af.gI 156 rfl rfl (by kernel_rfl)) (by rintro _ _ ⟨b36,rfl,rfl⟩;exact Kept.auto) ?_
   rintro _ _ ⟨b36,rfl,rfl⟩
   refine .mem (H':=[arr b36 0 (gJ r),arr b3 0 (gJ r),sl gJ 4 vw d.wait,arr b 0 [vb,vw],sl cO 1 vb d.blocks,F]) (fun w s=>s) ?_
   refine .d2 rfl Kept.auto (af.gg (enc:=gJ) (k:=4) r rfl underlying207 underlying207 typeInfo156 rfl rfl rfl (by decide) rfl rfl rfl .auto rfl .auto (by omega) rfl) (by rintro _ _ ⟨v37,rfl,rfl⟩;exact Kept.auto) ?_
   rintro _ _ ⟨v37,rfl,rfl⟩
   refine J 2 ?_
   refine .d3 rfl (af.lY sizeOf207 rfl rfl rfl) ?_
   rintro _ _ ⟨rfl,rfl⟩
   refine J 8 ?_
   rw[GW h5 h23]
   exact JR 0 ()
theorem Fm{W:World}{b:Nat}{d:kF}{k:Int}(hl:d.wait.length≤1000000)(hb:∀ r∈d.wait,0≤r.block∧r.block<(d.blocks.length:Int)):Fn Tryz.prog W 98 [ptr b,.int .i64 k] [oH b d] Unit (fun _=>.tuple #[.agg (gJ (d.done k).1).toArray,.int .u64 (d.done k).2.1,.bool (d.done k).2.2.1]) (fun _=>True) (fun _=>[oH b (d.done k).2.2.2]):=by
 refine Fn.intro (N:=66) func98 rfl ntmps98 rfl fun F=>?_
 show aq _ _ _ _ _ _ [oH b d,F]
 refine .o2 (C:=oH b d) .auto rfl ?_
 rintro vb vw -
 refine J 2 ?_
 refine .aj rfl (af.alloc rfl zeroValue156 rfl) ?_
 rintro _ _ ⟨b4,rfl,rfl⟩
 refine JD 19 (fun h18=>?_) fun h18=>?_
 ·refine J 2 ?_
  refine .p (.lR ([(.int .i64 0),(.int .i64 0),(.bool false),(.int .u64 0)]) (by kernel_rfl)) ?_
  refine J 7 ?_
  rw[qw (show d.wait.length=0 by omega)]
  refine .sK rfl rfl isAgg156 (by exact sizeOf156) Cells.a rfl rfl fun w s=>⟨(),?_,trivial,ai .auto s⟩
  rfl
 ·refine J 4 ?_
  have hpk:pick k d.wait.length<d.wait.length:=kN (by omega)
  have hr0:=getD_some (d:=xN) hpk
  obtain⟨r,hr⟩:∃ r,d.wait.getD (pick k d.wait.length) xN=r:=⟨_,rfl⟩
  rw[hr] at hr0
  have hbr:=hb r (List.mem_of_getElem? hr0)
  refine J 6 ?_
  refine .c call150 rfl (Fl (by omega) (by omega)) fun _ _=>?_
  refine J 10 ?_
  refine .p (.sM (pick k d.wait.length) underlying207 sizeOf156 rfl rfl Rd.s rfl hpk) ?_
  refine .p (.la rfl (Cells.rd Rd.s hr0)) ?_
  refine .aj rfl (af.alloc rfl zeroValue156 rfl) ?_
  rintro _ _ ⟨b8,rfl,rfl⟩
  refine J 13 ?_
  refine .c call151 rfl (Kb hpk (by omega)) fun u42 _=>?_
  refine J 2 ?_
  refine .aj rfl (af.lY sizeOf207 rfl rfl rfl) ?_
  rintro _ _ ⟨rfl,rfl⟩
  refine JD 9 (fun h46=>?_) fun h46=>?_
  ·refine J 1 ?_
   refine .draw [] [1,1,1,1,1,1,1,1,1,3] rfl (by kernel_rfl) ?_
   refine J 8 ?_
   obtain⟨y,hy⟩:=ak (show r.block.toNat<d.blocks.length by omega)
   refine .p (.ix r.block.toNat rfl rfl (by omega) (by omega)) ?_
   refine .d3 rfl (af.eG (x':=r.x) rfl rfl sizeOf110 rfl hy (by decide) rfl .auto) ?_
   rintro _ _ ⟨rfl,rfl⟩
   refine J 12 ?_
   rw[nR (show ¬d.wait.length=0 by omega) hr h46]
   refine .sK rfl rfl isAgg156 (by exact sizeOf156) Cells.a rfl rfl fun w s=>⟨(),?_,trivial,ai .auto s⟩
   rfl
  ·refine J 3 ?_
   refine .draw [arr b8 0 (gJ r),arr b 0 [vb,u42],sl cO 1 vb d.blocks] [1,0,0,0,0,0,0,0,0,2,1,1] rfl (by kernel_rfl) ?_
   refine J 7 ?_
   have hy:=getD_some (d:=(0:Int)) (show r.block.toNat<d.blocks.length by omega)
   refine .q (.ix r.block.toNat rfl rfl (by omega) (by omega)) ?_
   refine J 1 ?_
   refine .d2 rfl Kept.auto (af.iJ (by exact sizeOf156) rfl rfl rfl (by rfl)) (by rintro _ _ ⟨rfl,rfl⟩;exact Kept.auto) ?_
   rintro _ _ ⟨rfl,rfl⟩
   refine J 5 ?_
   rw[qx (show ¬d.wait.length=0 by omega) hr h46]
   refine .sK rfl rfl isAgg156 (by exact sizeOf156) Cells.a rfl rfl fun w s=>⟨(),?_,trivial,ai .auto s⟩
   rfl
end Go.SLYthlllpngkljgfaaGreat
namespace Go.SLYthlllpngkljgfaaGreat
open Go Go.RowKit Go.MapKept
def ur(e:MapEntry):Int×Int:=(match e.key with | .int _ k=>k | _=>0,match e.val with | .int _ k=>k | _=>0)
theorem Iz{es:List MapEntry}{c:Nat}{l:List (Int×Int)}(h:lE es c l):es.map ur=l∧ ∀ e∈es,e.key = .int .i64 (ur e).1∧e.val = .int .i64 (ur e).2:=by
 have h1:=h.1
 clear h
 induction es generalizing l with
 | nil =>
  cases l with
  | nil=>exact⟨rfl,fun e he=>by cases he⟩
  | cons p l=>cases h1
 | cons e es ih =>
  cases l with
  | nil=>cases h1
  | cons p l =>
   simp only[List.map_cons,List.cons.injEq,Prod.mk.injEq] at h1
   obtain⟨⟨hk,hv⟩,ht⟩:=h1
   obtain⟨i1,i2⟩:=ih ht
   have e1:ur e=p:=by unfold ur;rw[hk,hv]
   refine⟨by rw[List.map_cons,i1,e1],fun x hx=>?_⟩
   rcases List.mem_cons.1 hx with rfl | hx
   ·rw[e1];exact⟨hk,hv⟩
   ·exact i2 x hx
def findI(k:Int):List (Int×Int)→Nat→Option (Nat×Value)
 | [],_=>none
 | p::l,i=>if k=p.1 then some (i,.int .i64 p.2) else findI k l (i+1)
theorem pU{k:Int}:∀ {es:List MapEntry} {l:List (Int×Int)} {i:Nat},es.map (fun e=>(e.key,e.val))=l.map (fun p=>(Value.int .i64 p.1,Value.int .i64 p.2))→Instr.findNow (.int .i64) (.int .i64 k) es i=some (findI k l i)
 | [],[],_,_=>rfl
 | [],_::_,_,h=>by cases h
 | _::_,[],_,h=>by cases h
 | e::es,p::l,i,h=>by
  simp only[List.map_cons,List.cons.injEq,Prod.mk.injEq] at h
  obtain⟨⟨hk,hv⟩,ht⟩:=h
  unfold Instr.findNow findI
  rw[hk,hv]
  by_cases e:k=p.1
  ·subst e;simp[Instr.sameNow]
  ·simp only[Instr.sameNow,if_pos,if_neg e]
   rw[show(k == p.1)=false from by simpa using e]
   exact pU ht
theorem wS{k:Int}:∀ (l:List (Int×Int)) (i:Nat),(findI k l i).map (·.2)=(lU l k).map (Value.int .i64)
 | [],_=>rfl
 | p::l,i=>by
  unfold findI lU
  rw[List.find?_cons]
  by_cases e:k=p.1
  ·rw[if_pos e];simp[e]
  ·rw[if_neg e,show decide (p.1=k)=false from by simpa using fun h=>e h.symm]
   exact wS l (i+1)
theorem uu{k:Int}:∀ {l:List (Int×Int)} {i j:Nat} {v:Value},findI k l i=some (j,v)→ ∃ n v',j=i+n∧l[n]?=some (k,v')∧ ∀ v'',mapSet l k v''=l.set n (k,v'')
 | [],_,_,_,h=>by cases h
 | p::l,i,j,v,h=>by
  unfold findI at h
  by_cases e:k=p.1
  ·rw[if_pos e] at h;cases h
   exact⟨0,p.2,rfl,by rw[e];rfl,fun v''=>by rw[mapSet,if_pos e.symm];rfl⟩
  ·rw[if_neg e] at h
   obtain⟨n,v',h1,h2,h3⟩:=uu h
   exact⟨n+1,v',by omega,by simpa using h2,fun v''=>by rw[mapSet,if_neg (fun h=>e h.symm),h3];rfl⟩
theorem uv{k:Int}:∀ {l:List (Int×Int)} {i:Nat},findI k l i=none→(∀ p∈l,p.1≠k)∧ ∀ v,mapSet l k v=l++[(k,v)]
 | [],_,_=>⟨fun p hp=>(by cases hp),fun v=>rfl⟩
 | p::l,i,h=>by
  unfold findI at h
  by_cases e:k=p.1
  ·rw[if_pos e] at h;cases h
  ·rw[if_neg e] at h
   obtain⟨h1,h2⟩:=uv h
   refine⟨fun q hq=>?_,fun v=>by rw[mapSet,if_neg (fun h=>e h.symm),h2];rfl⟩
   rcases List.mem_cons.1 hq with rfl | hq
   ·exact fun h=>e h.symm
   ·exact h1 q hq
theorem mem_modify{α:Type}{l:List α}{n:Nat}{f:α→α}{x:α}(h:x∈l.modify n f):x∈l∨ ∃ y∈l,x=f y:=by
 induction l generalizing n with
 | nil=>simp at h
 | cons y l ih =>
  cases n with
  | zero =>
   rw[List.modify_zero_cons] at h
   rcases List.mem_cons.1 h with rfl | h
   ·exact .inr ⟨y,by simp,rfl⟩
   ·exact .inl (.tail _ h)
  | succ n =>
   rw[List.modify_succ_cons] at h
   rcases List.mem_cons.1 h with rfl | h
   ·exact .inl (by simp)
   ·rcases ih h with h | ⟨z,hz,rfl⟩
    ·exact .inl (.tail _ h)
    ·exact .inr ⟨z,.tail _ hz,rfl⟩
theorem Ca{α β:Type}{l:List α}{n:Nat}{f:α→α}{g:α→β}(h:∀ x,g (f x)=g x):(l.modify n f).map g=l.map g:=by
 induction l generalizing n with
 | nil=>simp
 | cons y l ih =>
  cases n with
  | zero=>simp[h]
  | succ n=>simp[ih]
theorem uw{α β:Type}{l:List α}{n:Nat}{f:α→α}{g:α→β}{b:β}(h:∀ x,g (f x)=b):(l.modify n f).map g=(l.map g).set n b:=by
 induction l generalizing n with
 | nil=>simp
 | cons y l ih =>
  cases n with
  | zero=>simp[h]
  | succ n=>simp[ih]
theorem Kl{l:List (Int×Int)}{n:Nat}{k v v':Int}(h:l[n]?=some (k,v')):(l.set n (k,v)).map (·.1)=l.map (·.1):=by
 rw[List.map_set]
 exact fA (by rw[List.getElem?_map,h];rfl)
theorem L9{es:List MapEntry}{c n:Nat}{l:List (Int×Int)}{k v v':Int}(h:lE es c l)(hn:l[n]?=some (k,v')) :
  lE (es.modify n fun e=>{e with key:=.int .i64 k,val:=.int .i64 v }) c (l.set n (k,v)):=by
 obtain⟨h1,h2,h3,h4⟩:=h
 refine⟨?_,by rw[Kl hn];exact h2,fun e he=>?_,?_⟩
 ·rw[uw (f:=fun e:MapEntry=>{e with key:=.int .i64 k,val:=.int .i64 v }) (g:=fun e:MapEntry=>(e.key,e.val)) (b:=(Value.int .i64 k,Value.int .i64 v)) (fun _=>rfl),h1,List.map_set]
 ·rcases mem_modify he with he | ⟨y,hy,rfl⟩
  ·exact h3 e he
  ·exact h3 y hy
 ·rw[Ca (f:=fun e:MapEntry=>{e with key:=.int .i64 k,val:=.int .i64 v }) (g:=fun e:MapEntry=>e.born) (fun _=>rfl)];exact h4
theorem Km{es:List MapEntry}{c:Nat}{l:List (Int×Int)}{k v:Int}(h:lE es c l)(hn:∀ p∈l,p.1≠k) :
  lE (es++[{key:=.int .i64 k,val:=.int .i64 v,born:=c }]) (c+1) (l++[(k,v)]):=by
 obtain⟨h1,h2,h3,h4⟩:=h
 refine⟨by simp[h1],?_,fun e he=>?_,?_⟩
 ·rw[List.map_append,List.nodup_append]
  refine⟨h2,by simp,fun a ha b hb=>?_⟩
  obtain⟨p,hp,rfl⟩:=List.mem_map.1 ha
  simp only[List.map_cons,List.map_nil,List.mem_cons,List.not_mem_nil,or_false] at hb
  subst hb;exact hn p hp
 ·rcases List.mem_append.1 he with he | he
  ·have:=h3 e he;omega
  ·simp only[List.mem_cons,List.not_mem_nil,or_false] at he;subst he;exact Nat.lt_succ_self _
 ·rw[List.map_append,List.nodup_append]
  refine⟨h4,by simp,fun a ha b hb=>?_⟩
  obtain⟨e,he,rfl⟩:=List.mem_map.1 ha
  simp only[List.map_cons,List.map_nil,List.mem_cons,List.not_mem_nil,or_false] at hb
  subst hb;have:=h3 e he;omega
theorem Ma{l:List (Int×Int)}{n:Nat}{k v:Int}(hd:(l.map (·.1)).Nodup)(h:l[n]?=some (k,v)):gu l k=l.eraseIdx n:=by
 induction l generalizing n with
 | nil=>simp at h
 | cons p l ih =>
  simp only[List.map_cons,List.nodup_cons] at hd
  cases n with
  | zero =>
   simp at h;subst h
   unfold gu
   rw[List.filter_cons,if_neg (by simp),List.eraseIdx_cons_zero,List.filter_eq_self]
   intro q hq
   have:q.1≠k:=fun e=>hd.1 (List.mem_map.2 ⟨q,hq,e⟩)
   simpa using this
  | succ n =>
   have hn:l[n]?=some (k,v):=by simpa using h
   have hm:k∈l.map (·.1):=List.mem_map.2 ⟨_,List.mem_of_getElem? hn,rfl⟩
   unfold gu
   rw[List.filter_cons,if_pos (by have:p.1≠k:=(fun e=>hd.1 (by rw[e];exact hm));simpa using this),List.eraseIdx_cons_succ]
   congr 1
   exact ih hd.2 hn
theorem Mb{l:List (Int×Int)}{k:Int}(h:∀ p∈l,p.1≠k):gu l k=l:=by
 unfold gu
 rw[List.filter_eq_self]
 exact fun q hq=>by simpa using h q hq
theorem ku{α β:Type}(f:α→β):∀ (l:List α) (n:Nat),(l.eraseIdx n).map f=(l.map f).eraseIdx n
 | [],_=>rfl
 | x::l,0=>rfl
 | x::l,n+1=>by rw[List.eraseIdx_cons_succ,List.map_cons,List.map_cons,List.eraseIdx_cons_succ,ku f l n]
theorem Mc{es:List MapEntry}{c n:Nat}{l:List (Int×Int)}(h:lE es c l):lE (es.eraseIdx n) c (l.eraseIdx n):=by
 obtain⟨h1,h2,h3,h4⟩:=h
 refine⟨?_,?_,fun e he=>h3 e ((List.eraseIdx_sublist _ _).mem he),?_⟩
 ·rw[ku,ku,h1]
 ·rw[ku];exact h2.sublist (List.eraseIdx_sublist _ _)
 ·rw[ku];exact h4.sublist (List.eraseIdx_sublist _ _)
theorem IA{α:Type}(es:Array α)(x:α):(es.toList++[x]).toArray=es.push x:=by
 apply Array.ext'
 simp
theorem Kn{α:Type}(es:Array α)(n:Nat)(f:α→α):(es.toList.modify n f).toArray=es.modify n f:=by
 apply Array.ext'
 simp
theorem Fo{α:Type}(es:Array α)(n:Nat):(es.toList.eraseIdx n).toArray=es.eraseIdxIfInBounds n:=by
 apply Array.ext'
 simp
theorem im{P:Program}{w:World}{r:Nat}{o:Obj}(hb:w.heap[r]?=some o)(hc:cellsB o=false:=by rfl):(getObj r).run P w = .ok o w:=by
 cases o with
 | cells=>exact absurd hc (by simp[cellsB])
 | _=>simp[getObj,Sem.run,hb]
theorem pV{P:Program}{w:World}{r:Nat}{o:Obj}(o':Obj)(hb:w.heap[r]?=some o)(hc:cellsB o=false:=by rfl):(setObj r o').run P w = .ok () {w with heap:=w.heap.setIfInBounds r o' }:=by
 cases o with
 | cells=>exact absurd hc (by simp[cellsB])
 | _=>simp[setObj,Sem.run,hb]
section
variable{P:Program}{W:World}{N:Nat}{L:List (Nat×Option Value)}{H R:List aa}{T:TypeId}{O:Array Oper}
theorem Md{m:Nat}{l:List (Int×Int)}(t:At H (nJ m l)){w:World}(s:Sat W w (seps H)):∃ es c,lE es c l∧w.heap[m]?=some (.map es.toArray c):=by
 obtain⟨R,s⟩:=t.sat s
 obtain⟨h,⟨h1,h2,⟨es,c,ho,a⟩,r,d,e'⟩,hin⟩:=s.own
 simp only[seps,aJ] at a
 exact⟨es,c,ho,(j0 (b:=m) (x:=.map es.toArray c) (R:=R) {s with own:=⟨h,⟨h1,h2,a,r,d,e'⟩,hin⟩ }).2.1⟩
theorem Y.Nd{t kt vt:TypeId}{x y:Operand}{m:Nat}{l:List (Int×Int)}{k:Int}(hu:P.underlying t=some (.map kt vt))(hk:P.underlying kt=some (.int .i64))(hz:∀ w,(zeroValue vt).run P w = .ok (.int .i64 0) w)(hx:ev L x=some (.map (some m)))(hy:ev L y=some (.int .i64 k))(ht:At H (nJ m l)) :
  Y P W N (.lookup t x y false) T L H (.int .i64 ((lU l k).getD 0)):=fun dst pos after guard a w ha hs=>by
 simp only[execOp,ha.eval hx,ha.eval hy]
 refine bN ?_
 obtain⟨es,c,ho,hb⟩:=Md ht hs
 have hf:=run_findKey (P:=P) (w:=w) hk (pU (k:=k) (i:=0) ho.1)
 have hc:=run_checkKey (P:=P) (w:=w) hk (k:=.int .i64 k) rfl (es.toArray.isEmpty) 9999
 have hg:=wS (k:=k) l 0
 unfold Instr.lookup
 simp only[Sem.run_bind,run_underlying hu,Result.andThen_ok,im hb,Sem.run_pure,hc,hf]
 cases e:findI k l 0 with
 | none =>
  rw[e] at hg
  have:lU l k=none:=by simpa using hg.symm
  simp[hz,this]
 | some p =>
  rw[e] at hg
  cases hm:lU l k with
  | none=>rw[hm] at hg;cases hg
  | some v =>
   rw[hm] at hg
   have:p.2 = .int .i64 v:=by simpa using hg
   simp[this]
theorem af.KU{o:Oper}{m:Nat}{l l':List (Int×Int)}(hd:o.dst=none)(t:Take H (nJ m l) R)
  (h:∀ a w es c,Env N L a→w.heap[m]?=some (.map es c)→lE es.toList c l→ ∃ es' c',lE es' c' l'∧((execOp a.eval o).run P w = .ok .skip {w with heap:=w.heap.setIfInBounds m (.map es'.toArray c') }∨ ∃ v,(execOp a.eval o).run P w = .ok (.value v) {w with heap:=w.heap.setIfInBounds m (.map es'.toArray c') })) :
  af P W N o L H (fun L1 H1=>L1=L∧H1=nJ m l'::R):=fun a w ha hs Kp hK=>by
 rw[t.seps] at hs
 obtain⟨hp,⟨h1,h2,⟨es,c,ho,am⟩,r,d,e'⟩,hin⟩:=hs.own
 simp only[seps,aJ] at am
 have hs2:Sat W w (sep (jk m (.map es.toArray c)) (seps R)):={hs with own:=⟨hp,⟨h1,h2,am,r,d,e'⟩,hin⟩ }
 obtain⟨es',c',ho',hr⟩:=h a w es.toArray c ha (j0 hs2).2.1 (by simpa using ho)
 have hs3:=hs2.setObj (.map es'.toArray c') rfl
 have hs4:Sat W {w with heap:=w.heap.setIfInBounds m (.map es'.toArray c') } (seps (nJ m l'::R)) :=
  hs3.mono (ba (fun g b=>⟨es',c',ho',by simpa only[seps,aJ] using b⟩) fun _ b=>b)
 unfold Oper.wp
 rcases hr with hr | ⟨v,hr⟩
 ·rw[hr]
  simp only[Oper.upon]
  rw[hd]
  exact hK _ _ ⟨rfl,rfl⟩ _ _ ⟨ha.size,ha.get,ha.defers⟩ hs4
 ·rw[hr]
  simp only[Oper.upon]
  rw[hd]
  exact hK _ _ ⟨rfl,rfl⟩ _ _ ⟨ha.size,ha.get,ha.defers⟩ hs4
theorem af.mapSet{t kt vt:TypeId}{x y z:Operand}{pos:String}{after:Array Edge}{guard:Option (Nat×Bool)}{m:Nat}{l:List (Int×Int)}{k v:Int}(hu:P.underlying t=some (.map kt vt))(hk:P.underlying kt=some (.int .i64))(hx:ev L x=some (.map (some m)))(hy:ev L y=some (.int .i64 k))(hz:ev L z=some (.int .i64 v))(ht:Take H (nJ m l) R) :
  af P W N ⟨none,.mapUpdate t x y z,T,pos,after,guard⟩ L H (fun L1 H1=>L1=L∧H1=nJ m (mapSet l k v)::R) :=
 af.KU rfl ht fun a w es c ha hb ho=>by
  have hf:=run_findKey (P:=P) (w:=w) hk (pU (k:=k) (i:=0) ho.1)
  have hc:=run_checkKey (P:=P) (w:=w) hk (k:=.int .i64 k) rfl false 9999
  cases e:findI k l 0 with
  | none =>
   obtain⟨h1,h2⟩:=uv e
   refine⟨es.toList++[{key:=.int .i64 k,val:=.int .i64 v,born:=c }],c+1,by rw[h2];exact Km ho h1,.inl ?_⟩
   rw[e] at hf
   simp only[execOp,ha.eval hx,ha.eval hy,ha.eval hz]
   show(Instr.mapUpdate t (.map (some m)) (.int .i64 k) (.int .i64 v) >>= fun _=>pure Next.skip).run P w=_
   simp only[Instr.mapUpdate,Sem.run_bind,run_underlying hu,Result.andThen_ok,im hb,hc,hf,pV _ hb,Sem.run_pure,IA]
  | some p =>
   obtain⟨j,val⟩:=p
   obtain⟨n,v',hj,hn,h3⟩:=uu e
   obtain rfl:j=n:=by omega
   refine⟨es.toList.modify j fun e=>{e with key:=.int .i64 k,val:=.int .i64 v },c,by rw[h3];exact L9 ho hn,.inl ?_⟩
   rw[e] at hf
   have hkey:((es[j]?).map (·.key)).getD (.int .i64 k) = .int .i64 k:=by
    have h1:=ho.1
    have:(es.toList.map fun e=>(e.key,e.val))[j]?=some (.int .i64 k,.int .i64 v'):=by rw[h1,List.getElem?_map,hn];rfl
    rw[List.getElem?_map] at this
    cases he:es.toList[j]? with
    | none=>rw[he] at this;cases this
    | some en =>
     rw[he] at this
     have h5:en.key = .int .i64 k:=by simpa using congrArg (fun o=>o.map Prod.fst) this
     rw[← Array.getElem?_toList,he]
     exact h5
   simp only[execOp,ha.eval hx,ha.eval hy,ha.eval hz]
   show(Instr.mapUpdate t (.map (some m)) (.int .i64 k) (.int .i64 v) >>= fun _=>pure Next.skip).run P w=_
   simp only[Instr.mapUpdate,Sem.run_bind,run_underlying hu,Result.andThen_ok,im hb,hc,hf,hkey,run_keyThatStays (d:=.int .i64) (k:=.int .i64 k) rfl,pV _ hb,Sem.run_pure,Kn]
theorem af.gu{t kt vt:TypeId}{ts:Array TypeId}{x y:Operand}{pos:String}{after:Array Edge}{guard:Option (Nat×Bool)}{m:Nat}{l:List (Int×Int)}{k:Int}(hu:P.underlying t=some (.map kt vt))(hk:P.underlying kt=some (.int .i64))(hx:ev L x=some (.map (some m)))(hy:ev L y=some (.int .i64 k))(ht:Take H (nJ m l) R)(hts:ts[0]?=some t) :
  af P W N ⟨none,.call ⟨.builtin .delete, #[x,y],ts⟩,T,pos,after,guard⟩ L H (fun L1 H1=>L1=L∧H1=nJ m (SLYthlllpngkljgfaaGreat.gu l k)::R) :=
 af.KU rfl ht fun a w es c ha hb ho=>by
  have hf:=run_findKey (P:=P) (w:=w) hk (pU (k:=k) (i:=0) ho.1)
  have hc:=run_checkKey (P:=P) (w:=w) hk (k:=.int .i64 k) rfl es.isEmpty 9999
  have hrun:∀ o:Option (Nat×Value),Instr.findKey kt (.int .i64 k) es.toList=Instr.findKey kt (.int .i64 k) es.toList:=fun _=>rfl
  cases e:findI k l 0 with
  | none =>
   obtain⟨h1,h2⟩:=uv e
   refine⟨es.toList,c,by rw[Mb h1];exact ho,.inr ⟨.tuple #[],?_⟩⟩
   rw[e] at hf
   simp[execOp,resolve,invoke,builtin,ha.eval hx,ha.eval hy,Builtin.delete_,hts,run_underlying hu,im hb,hc,hf,pV _ hb]
  | some p =>
   obtain⟨j,val⟩:=p
   obtain⟨n,v',hj,hn,h3⟩:=uu e
   obtain rfl:j=n:=by omega
   refine⟨es.toList.eraseIdx j,c,by rw[Ma ho.2.1 hn];exact Mc ho,.inr ⟨.tuple #[],?_⟩⟩
   rw[e] at hf
   simp[execOp,resolve,invoke,builtin,ha.eval hx,ha.eval hy,Builtin.delete_,hts,run_underlying hu,im hb,hc,hf,pV _ hb,Fo]
end
end Go.SLYthlllpngkljgfaaGreat
namespace Go.SLYthlllpngkljgfaaGreat
open Go Go.RowKit Go.MapKept
def KV(it m c:Nat)(seen:List MapEntry):aa:=jk it (.mapIter (some m) c (seen.map (·.born)).toArray c)
def nextA:Option MapEntry→Array Value
 | none => #[.bool false]
 | some e => #[.bool true,e.key,e.val]
def DD(o:Option MapEntry):Value:=.tuple (nextA o)
theorem Me(o:Option MapEntry):(nextA o)[0]?=some (.bool o.isSome):=by cases o <;> rfl
section
variable{P:Program}{W:World}{N:Nat}{L:List (Nat×Option Value)}{H R:List aa}{T:TypeId}{O:Array Oper}
theorem yr{m:Nat}{x:Obj}(t:At H (jk m x)){w:World}(s:Sat W w (seps H)):w.heap[m]?=some x:=by
 obtain⟨R,s⟩:=t.sat s
 exact(j0 s).2.1
theorem af.Mf{t kt vt:TypeId}{x:Operand}{pos:String}{after:Array Edge}{guard:Option (Nat×Bool)}{d m c:Nat}{es:List MapEntry}(hN:Nat.blt d N=true)(hu:P.underlying t=some (.map kt vt))(hx:ev L x=some (.map (some m)))(ht:At H (jk m (.map es.toArray c))) :
  af P W N ⟨some d,.range t x,T,pos,after,guard⟩ L H (fun L1 H1=>∃ it,L1=(d,some (ptr it))::L∧H1=KV it m c []::H):=fun a w ha hs Kp hK=>by
 have hb:=yr ht hs
 have hrun:(execOp a.eval ⟨some d,.range t x,T,pos,after,guard⟩).run P w = .ok (.value (ptr w.heap.size)) (w.alloc (.mapIter (some m) c #[] c)):=by
  simp only[execOp,ha.eval hx]
  show(Instr.range t (.map (some m)) >>= fun x=>pure (Next.value x)).run P w=_
  simp[Instr.range,run_underlying hu,im hb]
 unfold Oper.wp
 rw[hrun]
 simp only[Oper.upon]
 exact hK _ _ ⟨w.heap.size,rfl,rfl⟩ _ _ (ha.put (Nat.blt_eq.mp hN) _) (hs.yK _ rfl)
def mF(es:Array MapEntry)(seen:Array Nat):Array MapEntry:=es.filter fun e => !seen.contains e.born
theorem IB{es:Array MapEntry}{seen:Array Nat}{c:Nat}(h:∀ e∈es.toList,e.born<c):(mF es seen).filter (fun e=>decide (e.born<c))=mF es seen:=by
 rw[Array.filter_eq_self]
 intro e he
 have:e∈es:=(Array.mem_filter.1 he).1
 simpa using h e (by simpa using this)
theorem IC{es:Array MapEntry}{seen:Array Nat}{c:Nat}(h:∀ e∈es.toList,e.born<c):(mF es seen).filter (fun e=>decide (e.born≥c)) = #[]:=by
 rw[Array.filter_eq_empty_iff]
 intro e he
 have:e∈es:=(Array.mem_filter.1 he).1
 have:=h e (by simpa using this)
 simp;omega
theorem choose_lt{n:Nat}(hn:0<n)(w:World):∃ i w',(choose (.mapNext n)).run P w = .ok i w'∧i<n∧(w'=w∨w'=w.drew):=by
 rw[run_choose_drew]
 by_cases h:n≤1
 ·exact⟨0,w,by simp[Question.forced,h],hn,.inl rfl⟩
 ·exact⟨(Question.mapNext n).cut (w.tape w.drawn (.mapNext n)),w.drew,by simp[Question.forced,h],Nat.mod_lt _ hn,.inr rfl⟩
def wT(l:Array MapEntry):Array (Option MapEntry):=(if l.isEmpty=true then #[none] else #[])++(l ++ #[]).map some
def stepN(it m c:Nat)(sn:Array Nat):Option (Option MapEntry)→Sem Value
 | some (some e)=>do
  setObj it (.mapIter (some m) c (sn.push e.born) c)
  pure (.tuple #[.bool true,e.key,e.val])
 | some none=>pure (.tuple #[.bool false])
 | none => stuck "Next: no such candidate"
theorem ID{it m c:Nat}{es:Array MapEntry}{sn:Array Nat}{w:World}(Cv:w.heap[it]?=some (.mapIter (some m) c sn c))(hbm:w.heap[m]?=some (.map es c))(hc:∀ e∈es.toList,e.born<c) :
  (Instr.next (ptr it) false T).run P w=((choose (.mapNext (wT (mF es sn)).size)).run P w).andThen fun i w'=>(stepN it m c sn (wT (mF es sn))[i]?).run P w':=by
 have hguard:(!sn.isEmpty && !es.isEmpty && es.all fun e=>decide (e.born≥c))=false:=by
  obtain⟨l⟩:=es
  cases l with
  | nil=>simp
  | cons e es =>
   have:=hc e (by simp)
   simp;intro _ _;omega
 have hold:=IB (seen:=sn) hc
 have hnew:=IC (seen:=sn) hc
 unfold mF at hold hnew
 unfold Instr.next
 simp only[Sem.run_bind,im Cv,Result.andThen_ok,im hbm,hguard,Bool.false_eq_true,if_false]
 unfold mF
 rw[hold,hnew]
 show((choose (.mapNext (wT (mF es sn)).size)).run P w).andThen _=_
 rfl
theorem Cb{s:Sem Value}{v:Value}{w w':World}(h:s.run P w = .ok v w'):(do pure (Next.value (← s)):Sem Next).run P w = .ok (.value v) w':=by
 simp[h]
theorem af.dT{x:Operand}{pos:String}{after:Array Edge}{guard:Option (Nat×Bool)}{d it m c:Nat}{es seen:List MapEntry}(hN:Nat.blt d N=true)(hx:ev L x=some (ptr it))(ht:Take H (KV it m c seen) R)(hm:At R (jk m (.map es.toArray c)))(hc:∀ e∈es,e.born<c) :
  af P W N ⟨some d,.next x false,T,pos,after,guard⟩ L H (fun L1 H1=>∃ o:Option MapEntry,((o=none→ ∀ e∈es,e.born∈seen.map (fun e=>e.born))∧ ∀ e,o=some e→e∈es∧¬e.born∈seen.map (fun e=>e.born))∧L1=(d,some (DD o))::L∧H1=KV it m c (seen++o.toList)::R):=fun a w ha hs Kp hK=>by
 rw[ht.seps] at hs
 obtain⟨sn,hsn⟩:∃ sn,sn=(seen.map (fun e=>e.born)).toArray:=⟨_,rfl⟩
 have Cv:w.heap[it]?=some (.mapIter (some m) c sn c):=by rw[hsn];exact(j0 (b:=it) (x:=.mapIter (some m) c (seen.map (·.born)).toArray c) hs).2.1
 have hbm:w.heap[m]?=some (.map es.toArray c):=yr hm hs.right
 have hdone:∀ o:Option MapEntry,((o=none→ ∀ e∈es,e.born∈seen.map (fun e=>e.born))∧ ∀ e,o=some e→e∈es∧¬e.born∈seen.map (fun e=>e.born))→ ∀ w',(Instr.next (ptr it) false T).run P w = .ok (DD o) w'→Sat W w' (sep (KV it m c (seen++o.toList)) (seps R))→Oper.wp P ⟨some d,.next x false,T,pos,after,guard⟩ a w Kp QF:=fun o ho w' hr hs'=>by
  have h2:(execOp a.eval ⟨some d,.next x false,T,pos,after,guard⟩).run P w = .ok (.value (DD o)) w':=by
   simp only[execOp,ha.eval hx]
   exact Cb hr
  unfold Oper.wp
  rw[h2]
  simp only[Oper.upon]
  exact hK _ _ ⟨o,ho,rfl,rfl⟩ _ _ (ha.put (Nat.blt_eq.mp hN) _) hs'
 have hstart:=ID (P:=P) (T:=T) Cv hbm (by simpa using hc)
 have hin:∀ e,e∈mF es.toArray sn↔e∈es∧¬e.born∈seen.map (fun e=>e.born):=fun e=>by
  unfold mF
  rw[Array.mem_filter,hsn]
  simp
 generalize hl:mF es.toArray sn=l at hstart hin
 by_cases he:l = #[]
 ·subst he
  refine hdone none ⟨fun _ e hem=>Decidable.byContradiction fun hn=>?_,fun e h=>(by cases h)⟩ w ?_ (by simpa using hs)
  ·have:=(hin e).2 ⟨hem,hn⟩
   simp at this
  ·rw[hstart]
   simp[Question.forced,DD,nextA,wT,stepN]
 ·have hne:l.isEmpty=false:=by
   cases h:l.isEmpty
   ·rfl
   ·exact absurd (by simpa using h) he
  have hpos:0<l.size:=by
   rcases Nat.eq_zero_or_pos l.size with h | h
   ·exact absurd (Array.eq_empty_of_size_eq_zero h) he
   ·exact h
  have hcs:wT l=l.map some:=by unfold wT;rw[hne];simp
  rw[hcs,Array.size_map] at hstart
  obtain⟨i,w',hr,hi,hw⟩:=choose_lt (P:=P) hpos w
  have hei:(l.map some)[i]?=some (some l[i]):=by simp[hi]
  have hmem:=(hin l[i]).1 (Array.getElem_mem hi)
  have hs':Sat W w' (sep (KV it m c seen) (seps R)):=by
   rcases hw with rfl | rfl
   ·exact hs
   ·exact hs.drew
  have hit':w'.heap[it]?=some (.mapIter (some m) c sn c):=by rw[hsn];exact(j0 (b:=it) (x:=.mapIter (some m) c (seen.map (·.born)).toArray c) hs').2.1
  refine hdone (some l[i]) ⟨fun h=>(by cases h),fun e h=>(by cases h;exact hmem)⟩ {w' with heap:=w'.heap.setIfInBounds it (.mapIter (some m) c (sn.push l[i].born) c) } ?_ ?_
  ·rw[hstart,hr]
   simp only[Result.andThen_ok,hei,stepN,Sem.run_bind,pV _ hit',Sem.run_pure]
   rfl
  ·have:=hs'.setObj (.mapIter (some m) c (sn.push l[i].born) c) rfl
   refine this.eq ?_
   unfold KV
   rw[hsn]
   congr 3
   simp
theorem Y.Mg{x:Operand}{it m c:Nat}{es seen:List MapEntry}{e:MapEntry}(hx:ev L x=some (ptr it))(ht:At H (KV it m c (seen++[e])))(hm:At H (jk m (.map es.toArray c)))(he:e∈es)(hd:(es.map (·.born)).Nodup) :
  Y P W N (.entry x) T L H (.tuple #[e.key,e.val]):=fun dst pos after guard a w ha hs=>by
 simp only[execOp,ha.eval hx]
 refine bN ?_
 have Cv:=yr ht hs
 have hbm:=yr hm hs
 have hf:es.toArray.find? (·.born == e.born)=some e:=by
  rw[List.find?_toArray]
  clear hm hbm
  induction es with
  | nil=>cases he
  | cons y es ih =>
   simp only[List.map_cons,List.nodup_cons] at hd
   rw[List.find?_cons]
   rcases List.mem_cons.1 he with rfl | he'
   ·simp
   ·have:y.born≠e.born:=fun h=>hd.1 (by rw[h];exact List.mem_map_of_mem he')
    rw[show(y.born == e.born)=false from by simpa using this]
    exact ih he' hd.2
 unfold Instr.entry
 simp[im Cv,im hbm,hf]
end
end Go.SLYthlllpngkljgfaaGreat
namespace Go.SLYthlllpngkljgfaaGreat
open Go Go.RowKit
theorem ux(x:Int):∀ l:List Int,(cX x l).Perm (x::l)
 | []=>.refl _
 | y::l=>by
  rw[cX]
  split
  ·exact .refl _
  ·exact((ux x l).cons y).trans (.swap x y l)
theorem kv:∀ l:List Int,(gy l).Perm l
 | []=>.refl _
 | x::l=>(ux x (gy l)).trans ((kv l).cons x)
theorem uy(x:Int):∀ {l:List Int},l.Pairwise (·≤ ·)→(cX x l).Pairwise (·≤ ·)
 | [],_=>by simp[cX]
 | y::l,h=>by
  rw[cX]
  have hy:=(List.pairwise_cons.1 h)
  split
  ·rename_i hx
   refine List.pairwise_cons.2 ⟨fun z hz=>?_,h⟩
   rcases List.mem_cons.1 hz with rfl | hz
   ·exact hx
   ·exact Int.le_trans hx (hy.1 z hz)
  ·rename_i hx
   refine List.pairwise_cons.2 ⟨fun z hz=>?_,uy x hy.2⟩
   rcases List.mem_cons.1 ((ux x l).mem_iff.1 hz) with rfl | hz
   ·omega
   ·exact hy.1 z hz
theorem jS:∀ l:List Int,(gy l).Pairwise (·≤ ·)
 | []=>.nil
 | x::l=>uy x (jS l)
theorem wU{a b:List Int}(ha:a.Pairwise (·≤ ·))(hb:b.Pairwise (·≤ ·))(h:a.Perm b):a=b :=
 List.Perm.eq_of_pairwise (fun _ _ _ _ h1 h2=>Int.le_antisymm h1 h2) ha hb h
theorem Cc(l:List Int):l.mergeSort (fun x y=>decide (x≤y))=gy l:=by
 refine wU ?_ (jS l) ((List.mergeSort_perm l _).trans (kv l).symm)
 have:=List.pairwise_mergeSort (le:=fun x y:Int=>decide (x≤y)) (fun a b c h1 h2=>by simp only[decide_eq_true_eq] at *;omega) (fun a b=>by simp only[Bool.or_eq_true,decide_eq_true_eq];omega) l
 exact this.imp fun h=>by simpa using h
theorem yt{a b:List Int}(h:a.Perm b):gy a=gy b:=wU (jS a) (jS b) ((kv a).trans (h.trans (kv b).symm))
theorem kx(l:List Int):(gy l).length=l.length:=(kv l).length_eq
def ky(n:Int)(l:List MapEntry):List Int:=(l.filter fun e=>decide ((ur e).2≤n)).map fun e=>(ur e).1
theorem Ko{n:Int}{l:List MapEntry}{e:MapEntry}(h:(ur e).2≤n):ky n (l++[e])=ky n l++[(ur e).1]:=by
 unfold ky;rw[List.filter_append];simp[h]
theorem Mh{n:Int}{l:List MapEntry}{e:MapEntry}(h:¬(ur e).2≤n):ky n (l++[e])=ky n l:=by
 unfold ky;rw[List.filter_append];simp[h]
theorem Kq(n:Int)(l:List MapEntry):(ky n l).length≤l.length:=by unfold ky;rw[List.length_map];exact List.length_filter_le _ _
structure iO(es seen:List MapEntry):Prop where
 nd:(seen.map fun e=>e.born).Nodup
 sub:∀ e∈seen,e∈es
theorem iO.zero(es:List MapEntry):iO es []:=⟨.nil,fun e h=>by cases h⟩
theorem iO.len{es seen:List MapEntry}(h:iO es seen):seen.length≤es.length:=by
 have:=List.Nodup.length_le_of_subset (l₂ := es.map fun e=>e.born) h.nd (fun b hb=>by
  obtain⟨e,he,rfl⟩:=List.mem_map.1 hb
  exact List.mem_map.2 ⟨e,h.sub e he,rfl⟩)
 simpa using this
theorem iO.next{es seen:List MapEntry}(h:iO es seen){e:MapEntry}(he:e∈es)(hn:¬e.born∈seen.map (fun e=>e.born)):iO es (seen++[e]):=by
 refine⟨?_,fun x hx=>?_⟩
 ·rw[List.map_append,List.nodup_append]
  refine⟨h.nd,by simp,fun a ha b hb=>?_⟩
  simp only[List.map_cons,List.map_nil,List.mem_cons,List.not_mem_nil,or_false] at hb
  subst hb
  exact fun e'=>hn (e' ▸ ha)
 ·rcases List.mem_append.1 hx with hx | hx
  ·exact h.sub x hx
  ·simp only[List.mem_cons,List.not_mem_nil,or_false] at hx;subst hx;exact he
theorem lu{α β:Type}{f:α→β}:∀ {l:List α},(l.map f).Nodup→l.Nodup
 | [],_=>.nil
 | x::l,h=>by
  simp only[List.map_cons,List.nodup_cons] at h
  exact List.nodup_cons.2 ⟨fun hx=>h.1 (List.mem_map_of_mem hx),lu h.2⟩
theorem iO.all{es seen:List MapEntry}(h:iO es seen)(hd:(es.map fun e=>e.born).Nodup)(ha:∀ e∈es,e.born∈seen.map (fun e=>e.born)):seen.Perm es:=by
 refine(List.perm_ext_iff_of_nodup (lu h.nd) (lu hd)).2 fun e=>⟨h.sub e,fun he=>?_⟩
 obtain⟨x,hx,hb⟩:=List.mem_map.1 (ha e he)
 have hxe:=h.sub x hx
 clear ha h
 have:x=e:=by
  induction es with
  | nil=>cases he
  | cons y es ih =>
   simp only[List.map_cons,List.nodup_cons] at hd
   rcases List.mem_cons.1 he with h1 | h1
   ·rcases List.mem_cons.1 hxe with h2 | h2
    ·rw[h1,h2]
    ·exact absurd (List.mem_map.2 ⟨x,h2,by rw[hb,h1]⟩) hd.1
   ·rcases List.mem_cons.1 hxe with h2 | h2
    ·exact absurd (List.mem_map.2 ⟨e,h1,by rw[← hb,h2]⟩) hd.1
    ·exact ih hd.2 h1 h2
 rwa [← this]
theorem DE{w:lJ}{es seen:List MapEntry}{c:Nat}(ho:lE es c w.hU)(h:iO es seen)(ha:∀ e∈es,e.born∈seen.map (fun e=>e.born)):gy (ky (min (w.now+1) 1099511627776) seen)=w.due:=by
 have hp:=h.all ho.2.2.2 ha
 unfold lJ.due
 refine yt ?_
 rw[← (Iz ho).1,List.filter_map,List.map_map]
 exact(hp.filter _).map _
end Go.SLYthlllpngkljgfaaGreat
namespace Go.SLYthlllpngkljgfaaGreat
open Go Go.RowKit Go.Proofs
end Go.SLYthlllpngkljgfaaGreat
namespace Go.Proofs
open Go.Shelf
def Tryz.lays189_ren:Go.Shelf.Ren:=⟨fun | 189=>152 | 125=>182 | 257=>181 | 128=>204 | 129=>205 | 294=>195 | 295=>196 | 296=>197 | 297=>198 | 298=>199 | 299=>200 | 216=>201 | 300=>202 | 301=>203 | 328=>222 | 329=>223 | 330=>224 | 331=>225 | 332=>226 | 215=>227 | 343=>248 | n=>n,fun | 28=>50 | 3=>3 | 46=>245 | 0=>0 | 51=>276 | 53=>110 | 4=>4 | 183=>286 | 182=>285 | 131=>37 | 5=>5 | 9=>9 | 218=>301 | 222=>304 | 228=>332 | 229=>333 | n=>n,fun | n=>n⟩
theorem Tryz.lays189:Go.Proofs.Lays.n189 Tryz.prog Tryz.lays189_ren:={
 mixed:=by kernel_rfl
 f125:=Tryz.func182.trans (congrArg some (by kernel_rfl))
 f128:=Tryz.func204.trans (congrArg some (by kernel_rfl))
 f129:=Tryz.func205.trans (congrArg some (by kernel_rfl))
 f189:=Tryz.func152.trans (congrArg some (by kernel_rfl))
 f215:=Tryz.func227.trans (congrArg some (by kernel_rfl))
 f216:=Tryz.func201.trans (congrArg some (by kernel_rfl))
 f257:=Tryz.func181.trans (congrArg some (by kernel_rfl))
 f294:=Tryz.func195.trans (congrArg some (by kernel_rfl))
 f295:=Tryz.func196.trans (congrArg some (by kernel_rfl))
 f296:=Tryz.func197.trans (congrArg some (by kernel_rfl))
 f297:=Tryz.func198.trans (congrArg some (by kernel_rfl))
 f298:=Tryz.func199.trans (congrArg some (by kernel_rfl))
 f299:=Tryz.func200.trans (congrArg some (by kernel_rfl))
 f300:=Tryz.func202.trans (congrArg some (by kernel_rfl))
 f301:=Tryz.func203.trans (congrArg some (by kernel_rfl))
 f328:=Tryz.func222.trans (congrArg some (by kernel_rfl))
 f329:=Tryz.func223.trans (congrArg some (by kernel_rfl))
 f330:=Tryz.func224.trans (congrArg some (by kernel_rfl))
 f331:=Tryz.func225.trans (congrArg some (by kernel_rfl))
 f332:=Tryz.func226.trans (congrArg some (by kernel_rfl))
 f343:=Tryz.func248.trans (congrArg some (by kernel_rfl))
 t0:=Tryz.underlying0
 a0:=Tryz.isAgg0
 z0:=Tryz.sizeOf0
 v0:=Tryz.zeroValue0
 t3:=Tryz.underlying3
 a3:=Tryz.isAgg3
 z3:=Tryz.sizeOf3
 v3:=Tryz.zeroValue3
 t4:=Tryz.underlying4
 a4:=Tryz.isAgg4
 z4:=Tryz.sizeOf4
 v4:=Tryz.zeroValue4
 t5:=Tryz.underlying5
 a5:=Tryz.isAgg5
 z5:=Tryz.sizeOf5
 v5:=Tryz.zeroValue5
 t9:=Tryz.underlying9
 a9:=Tryz.isAgg9
 z9:=Tryz.sizeOf9
 v9:=Tryz.zeroValue9
 t28:=Tryz.underlying50
 a28:=Tryz.isAgg50
 z28:=Tryz.sizeOf50
 v28:=Tryz.zeroValue50
 t46:=Tryz.underlying245
 a46:=Tryz.isAgg245
 z46:=Tryz.sizeOf245
 v46:=Tryz.zeroValue245
 t51:=Tryz.underlying276
 a51:=Tryz.isAgg276
 z51:=Tryz.sizeOf276
 v51:=Tryz.zeroValue276
 t53:=Tryz.underlying110
 a53:=Tryz.isAgg110
 z53:=Tryz.sizeOf110
 v53:=Tryz.zeroValue110
 t131:=Tryz.underlying37
 a131:=Tryz.isAgg37
 z131:=Tryz.sizeOf37
 v131:=Tryz.zeroValue37
 t182:=Tryz.underlying285
 a182:=Tryz.isAgg285
 z182:=Tryz.sizeOf285
 v182:=Tryz.zeroValue285
 t183:=Tryz.underlying286
 a183:=Tryz.isAgg286
 z183:=Tryz.sizeOf286
 v183:=Tryz.zeroValue286
 t218:=Tryz.underlying301
 a218:=Tryz.isAgg301
 z218:=Tryz.sizeOf301
 v218:=Tryz.zeroValue301
 t222:=Tryz.underlying304
 a222:=Tryz.isAgg304
 z222:=Tryz.sizeOf304
 v222:=Tryz.zeroValue304
 t228:=Tryz.underlying332
 a228:=Tryz.isAgg332
 z228:=Tryz.sizeOf332
 v228:=Tryz.zeroValue332
 t229:=Tryz.underlying333
 a229:=Tryz.isAgg333
 z229:=Tryz.sizeOf333
 v229:=Tryz.zeroValue333 }
open Go.Sort Go.RowKit in
theorem Tryz.slices_Sort_int(blk off cap:Nat)(zs:List Int)(w:World)(hH:Holds (Value.int .i64) w blk off zs.toArray)(hblk:blk<w.heap.size)(hsz:zs.length<4611686018427387904) :
  Calls Tryz.prog 152 #[.slice (some ⟨blk,off,none⟩) zs.length cap] w fun e w' =>
   e = .returned (.tuple #[])∧ ∃ n os,w'=grow (putRow (Value.int .i64) (Sort.ahead w n) blk off (zs.mergeSort fun x y=>decide (x≤y)).toArray) os:=Any.slices_Sort_int Tryz.lays189 blk off cap zs w hH hblk hsz
open Go.RowKit Go.Sort in
theorem Tryz.slices_Sort_int_none(p:Option Addr)(cap:Nat)(w:World) :
  Calls Tryz.prog 152 #[.slice p 0 cap] w fun e w'=>e = .returned (.tuple #[])∧w'=w:=Any.slices_Sort_int_none Tryz.lays189 p cap w
end Go.Proofs
namespace Go.SLYthlllpngkljgfaaGreat
open Go Go.RowKit Go.Sort Go.Proofs
theorem mG:∀ l:List Int,rows au l=l.map (Value.int .i64)
 | []=>rfl
 | x::l=>by rw[eh,mG l];rfl
theorem Sat.setCells{W:World}{R:aa}{b:Nat}:∀ (vs:List Value) {off:Nat} {w:World} {pre post:List Value} (cs:List Value),cs.length=vs.length→pre.length=off→Sat W w (sep (arr b 0 (pre++cs++post)) R)→Sat W (w.setCells b off vs) (sep (arr b 0 (pre++vs++post)) R)
 | [],off,w,pre,post,cs,hl,hp,s=>by
  obtain rfl:=List.eq_nil_of_length_eq_zero hl
  exact s
 | v::vs,off,w,pre,post,cs,hl,hp,s=>by
  obtain⟨c,cs,rfl⟩:∃ c r,cs=c::r:=by
   cases cs with
   | nil=>cases hl
   | cons c r=>exact⟨c,r,rfl⟩
  have h1:=Sat.setCell (off:=0) s (i:=off) v (by simp;omega)
  rw[Nat.zero_add] at h1
  have e:(pre++(c::cs)++post).set off v=(pre++[v])++cs++post:=by
   subst hp
   simp
  rw[e] at h1
  have:=Sat.setCells vs (off:=off+1) (pre:=pre++[v]) (post:=post) cs (by simpa using hl) (by simp[hp]) h1
  show Sat W ((w.setCell ⟨b,off,none⟩ v).setCells b (off+1) vs) _
  simpa using this
theorem Nf{W:World}{v:Value}{xs:List Int}(hl:xs.length≤1000000000):Fn Tryz.prog W 152 [v] [sl au 1 v xs] Unit (fun _=>.tuple #[]) (fun _=>True) (fun _=>[sl au 1 v (gy xs)]):=fun F w hs=>by
 simp only[seps,aJ] at hs ⊢
 rcases hs.qY with ⟨⟨a,rfl⟩,rfl,s⟩ | ⟨b,cap,sp,rfl,hle,hk,hsp,s⟩
 ·refine(Go.Proofs.Tryz.slices_Sort_int_none a 0 w).mono fun e w' ⟨he,hw⟩=>⟨(),he,trivial,?_⟩
  rw[hw];exact hs
 ·have hrow:∀ j,j<xs.length→(rows au xs++sp)[j]?=some (.int .i64 (xs.getD j 0)):=fun j hj=>by
   rw[mG,List.getElem?_append_left (by simpa using hj),List.getElem?_map,getD_some (d:=0) hj];rfl
  have hH:Holds (Value.int .i64) w b 0 xs.toArray:=fun j hj=>by
   have hj':j<xs.length:=by simpa using hj
   obtain⟨h1,h2⟩:=ft s (hrow j hj')
   refine⟨?_,sA s (i:=j) (List.getElem?_eq_some_iff.1 (hrow j hj')).1⟩
   rw[h2]
   congr 1
   congr 1
   rw[getElem!_pos xs.toArray j hj]
   simp[List.getD_eq_getElem?_getD,hj']
  by_cases hx0:xs=[]
  ·subst hx0
   refine(Go.Proofs.Tryz.slices_Sort_int_none (some ⟨b,0,none⟩) cap w).mono fun e w' ⟨he,hw⟩=>⟨(),he,trivial,?_⟩
   rw[hw];exact hs
  ·have hb:b<w.heap.size:=by
    have hpos:0<xs.length:=by
     rcases Nat.eq_zero_or_pos xs.length with h | h
     ·exact absurd (List.eq_nil_of_length_eq_zero h) hx0
     ·exact h
    exact xg (ft s (hrow 0 hpos)).2
   refine(Go.Proofs.Tryz.slices_Sort_int b 0 cap xs w hH hb (by omega)).mono fun e w' ⟨he,q,os,hw⟩=>⟨(),he,trivial,?_⟩
   rw[hw,Cc,Lib.sorted_world (Value.int .i64) w b 0 q xs.toArray (gy xs) os hH (by rw[kx];simp)]
   have s1:Sat W (w.drewN q) (sep (arr b 0 ([]++rows au xs++sp)) F):=s.below ⟨rfl,rfl,rfl,Nat.le_refl _,fun _ _=>rfl⟩
   have s2:=Sat.setCells ((gy xs).map (Value.int .i64)) (off:=0) (pre:=[]) (post:=sp) (rows au xs) (by rw[mG];simp[kx]) rfl s1
   have s3:Sat W (grow ((w.drewN q).setCells b 0 ((gy xs).map (Value.int .i64))) os) (sep (arr b 0 ([]++(gy xs).map (Value.int .i64)++sp)) F):=s2.below ⟨rfl,rfl,rfl,by simp[grow],fun k hk=>by simp[grow,Array.getElem?_append_left hk]⟩
   rw[List.nil_append, ← mG] at s3
   have:=Sat.nu (enc:=au) (k:=1) (xs:=gy xs) (cap:=cap) (by rw[kx];exact hle) (fun _ _=>rfl) (by rw[kx];exact hsp) s3
   rwa [kx,mG] at this
end Go.SLYthlllpngkljgfaaGreat
namespace Go.SLYthlllpngkljgfaaGreat
open Go Go.RowKit Go.Proofs Go.Proofs.Tryz
attribute [local irreducible] aq aS bc bx bC Y
theorem Aq{W:World}{b:Nat}{w:lJ}{who n:Int}(hn:0≤w.now∧w.now≤1099511627776):Fn Tryz.prog W 265 [ptr b,.int .i64 who,.int .i64 n] [nK b w] Unit (fun _=>.int .i64 (w.sleep who n).1) (fun _=>True) (fun _=>[nK b (w.sleep who n).2]):=by
 refine Fn.intro (N:=38) func265 rfl ntmps265 rfl fun F=>?_
 show aq _ _ _ _ _ _ [nK b w,F]
 refine .o1 (C:=nK b w) .auto rfl ?_
 rintro m -
 refine J 16 ?_
 apply aS.gf 3 17 14 [14,15,16,17] rfl
 ·intro h14
  exact JS 4
 ·intro h14
  exact JS 4
 refine JD 3 (fun h7=>?_) fun h7=>?_
 ·refine J 8 ?_
  rw[show w.sleep who n=(1,w) from by unfold lJ.sleep;rw[if_pos (by simpa using h7)]]
  exact JR 0 ()
 ·refine J 7 ?_
  refine .p (.Nd underlying210 underlying3 zeroValue3 rfl rfl .auto) ?_
  refine JD 4 (fun h18=>?_) fun h18=>?_
  ·refine J 8 ?_
   rw[show w.sleep who n=(4,w) from by unfold lJ.sleep;rw[if_neg (by simpa using h7),if_pos h18]]
   exact JR 0 ()
  ·refine J 4 ?_
   refine .draw [] [1,1,1,1,1,1,1,1,1,1,1,1,3] rfl (by kernel_rfl) ?_
   simp only[Bool.or_eq_false_iff,decide_eq_false_iff_not] at h7
   refine J 10 ?_
   refine .p (.add rfl rfl (by omega)) ?_
   refine .p (.jK rfl rfl) ?_
   refine .d3 rfl (af.mapSet underlying210 underlying3 rfl rfl rfl .auto) ?_
   rintro _ _ ⟨rfl,rfl⟩
   refine J 8 ?_
   rw[show w.sleep who n=(0,{w with hU:=mapSet w.hU who (min (w.now+n) 1099511627776) }) from by unfold lJ.sleep;rw[if_neg (by omega),if_neg h18]]
   exact JR 0 ()
theorem Cd{W:World}{b:Nat}{w:lJ}(hn:0≤w.now∧w.now≤1099511627776)(hl:w.hU.length≤1000000):Fn Tryz.prog W 100 [ptr b] [nK b w] Value (fun u=>u) (fun _=>True) (fun u=>[sl au 1 u w.due,nK b w.tick.2]):=by
 refine Fn.intro (N:=54) func100 rfl ntmps100 rfl fun F=>?_
 show aq _ _ _ _ _ _ [nK b w,F]
 refine .o1 (C:=nK b w) .auto rfl ?_
 rintro m -
 refine J 12 ?_
 refine .ew rfl ?_
 refine J 9 ?_
 refine .p (.add rfl rfl (by omega)) ?_
 refine .p (.jK rfl rfl) ?_
 refine J 17 ?_
 refine .o2 (C:=nJ m w.hU) .auto rfl ?_
 rintro es c ho
 have hel:es.length=w.hU.length:=by have:=congrArg List.length ho.1;simpa using this
 refine .aj rfl (af.Mf rfl underlying210 rfl .auto) ?_
 rintro _ _ ⟨it,rfl,rfl⟩
 refine J 3 ?_
 refine .bn (X:=List MapEntry×Value) [3,4,5,24,25,26,27,28,29,30,31,32,33,34,35,36,37,38] (fun z=>es.length+1-z.1.length) (fun z=>iO es z.1) (fun z=>[(3,some z.2)]) (fun z=>[KV it m c z.1,sl au 1 z.2 (ky (min (w.now+1) 1099511627776) z.1),jk m (.map es.toArray c),arr b 0 [.int .i64 (min (w.now+1) 1099511627776),.map (some m)],F]) ([],.slice none 0 0) ?_ ?_ ?_ ?_
 ·exact iO.zero es
 ·exact⟨rfl,trivial⟩
 ·exact fun w s=>ax.kept .auto w s
 rintro⟨seen,u⟩ hS
 simp only at hS
 have hSl:=hS.len
 have hdl:=Kq (min (w.now+1) 1099511627776) seen
 refine J 2 ?_
 refine .aj rfl (af.dT rfl rfl .auto .auto ho.2.2.1) ?_
 rintro _ _ ⟨o,ho2,rfl,rfl⟩
 refine .p (.extract (vs:=nextA o) rfl (Me o)) ?_
 refine JD 3 (fun h25=>?_) fun h25=>?_
 ·refine J 5 ?_
  obtain⟨e,rfl⟩:∃ e,o=some e:=Option.isSome_iff_exists.1 h25
  obtain⟨he,hne⟩:=ho2.2 e rfl
  have hkv:=(Iz ho).2 e he
  have hS2:=hS.next he hne
  have hS3:=hS2.len
  rw[List.length_append] at hS3
  simp only[List.length_cons,List.length_nil] at hS3
  refine .p (.Mg rfl .auto .auto he ho.2.2.2) ?_
  rw[hkv.1,hkv.2]
  refine JD 16 (fun h34=>?_) fun h34=>?_
  ·refine J 3 ?_
   refine .aj rfl (af.gI 3 rfl rfl (by kernel_rfl)) ?_
   rintro _ _ ⟨b37,rfl,rfl⟩
   refine .aj rfl (af.gg (enc:=au) (k:=1) (ur e).1 rfl underlying50 underlying50 typeInfo3 rfl rfl rfl (by decide) rfl rfl rfl .auto rfl .auto (by dsimp only;omega) rfl) ?_
   rintro _ _ ⟨v38,rfl,rfl⟩
   refine J 3 ?_
   refine .aL (seen++[e],v38) .auto rfl ?_ ?_ ?_ ?_
   ·show es.length+1-(seen++[e]).length<es.length+1-seen.length;rw[List.length_append];simp only[List.length_cons,List.length_nil];omega
   ·exact hS2
   ·exact⟨rfl,trivial⟩
   ·show ∀ w,Sat _ w _→Sat _ w (seps [_,sl au 1 v38 (ky _ (seen++[e])),_,_,F])
    rw[Ko h34]
    exact fun w s=>ax.kept .auto w s
  ·refine J 2 ?_
   refine .aL (seen++[e],u) .auto rfl ?_ ?_ ?_ ?_
   ·show es.length+1-(seen++[e]).length<es.length+1-seen.length;rw[List.length_append];simp only[List.length_cons,List.length_nil];omega
   ·exact hS2
   ·exact⟨rfl,trivial⟩
   ·show ∀ w,Sat _ w _→Sat _ w (seps [_,sl au 1 u (ky _ (seen++[e])),_,_,F])
    rw[Mh h34]
    exact fun w s=>ax.kept .auto w s
 ·have hall:=ho2.1 (by cases o with
   | none=>rfl
   | some e=>cases h25)
  refine J 8 ?_
  refine .to (A:=nJ m w.hU) (Bs:=[jk m (.map es.toArray c)]) .auto (fun h a=>⟨es,c,ho,a⟩) ?_
  refine .c call152 rfl (Nf (xs:=ky (min (w.now+1) 1099511627776) seen) (by omega)) fun _ _=>?_
  rw[DE ho hS hall]
  have hdw:w.due.length≤1000000:=by rw[← DE ho hS hall,kx];omega
  refine J 11 ?_
  refine .bn (X:=Nat) [7,43,44,45,46,47,48,49,50,51,52] (fun k=>w.due.length-k) (fun k=>k≤w.due.length) (fun k=>[(43,some (.int .i64 (k:Int)))]) (fun k=>[nJ m ((w.due.take k).foldl gu w.hU),sl au 1 u w.due,arr b 0 [.int .i64 (min (w.now+1) 1099511627776),.map (some m)],F]) 0 ?_ ?_ ?_ ?_
  ·exact Nat.zero_le _
  ·exact⟨rfl,trivial⟩
  ·exact fun w s=>ax.kept .auto w s
  rintro k hk
  refine JD 6 (fun h44=>?_) fun h44=>?_
  ·obtain⟨x,hx⟩:=ak (show k<w.due.length by omega)
   refine J 7 ?_
   refine .p (.lr rfl hx) ?_
   refine J 9 ?_
   refine .aj rfl (af.gu underlying210 underlying3 rfl rfl .auto rfl) ?_
   rintro _ _ ⟨rfl,rfl⟩
   refine J 7 ?_
   refine .aL (k+1) .auto rfl ?_ ?_ ?_ ?_
   ·omega
   ·omega
   ·exact⟨rfl,trivial⟩
   ·show ∀ w2,Sat _ w2 _→Sat _ w2 (seps [nJ m ((w.due.take (k+1)).foldl gu w.hU),_,_,F])
    rw[aX hx,List.foldl_append]
    exact fun w s=>ax.kept .auto w s
  ·obtain rfl:k=w.due.length:=by omega
   rw[List.take_length]
   refine J 12 ?_
   show bx W 54 (bodyPost _ _ (fun e w2=>∃ u,e=_∧True∧Sat W w2 (sep (seps [sl au 1 u w.due,nK b ⟨min (w.now+1) 1099511627776,w.due.foldl gu w.hU⟩]) F))) _ _ _
   exact JR 0 u
end Go.SLYthlllpngkljgfaaGreat
