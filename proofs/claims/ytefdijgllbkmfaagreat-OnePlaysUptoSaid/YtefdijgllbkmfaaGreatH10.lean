/- Walks of functions, and what they compute. Conditions: none, this text proves no statement. -/
import Derived.Test.YtefdijgllbkmfaaGreatH06
import Derived.Test.YtefdijgllbkmfaaGreatProg
import Derived.Test.YtefdijgllbkmfaaGreatH08
import Derived.Test.YtefdijgllbkmfaaGreatH09
import Derived.KernelRfl
import Derived.Test.YtefdijgllbkmfaaGreatH05
import Derived.Test.YtefdijgllbkmfaaGreatH03
set_option maxRecDepth 20000
set_option maxHeartbeats 4000000
namespace Go.SLYtefdijgllbkmfaaGreat
open Go Go.RowKit Go.Proofs Go.Proofs.Tryz
attribute [local irreducible] ax aQ bu cj bQ Y
set_option maxHeartbeats 1000000 in
theorem HP{W:World}{A:aa}{b:Nat}{v:RV}{s:RSp}{n:Nat}{choice:Int}(hp:fp W [A] v.p)(hr:FK v.p.p s n)(hg:(s.run v.p.p n choice).2.au.length≤900000000):Fn Tryz.prog W 41 [ptr b,.int .i64 (n:Int),.int .i64 choice] [bV b v s,A] Value (fun u=>.agg (xH u (s.run v.p.p n choice).1).toArray) (fun _=>True) (fun u=>[sl aL 1 u (s.run v.p.p n choice).1.aM,bV b v (s.run v.p.p n choice).2,A]):=by
 refine Fn.intro (N:=67) func41 rfl ntmps41 rfl fun F=>?_
 show ax _ _ _ _ _ _ [bV b v s,A,F]
 have hn:=hr.lt
 obtain⟨hfs,hfn,hfl⟩:=hr.fs
 have hpc:=hr.c
 have hrr:=hr.r
 rw[BI] at hg
 have hg:((eW v.p.p s n choice).s.au++(eW v.p.p s n choice).late).length≤900000000:=hg
 rw[List.length_append] at hg
 refine J 2 ?_
 refine .aw rfl (af.alloc rfl zeroValue96 rfl) ?_
 rintro _ _ ⟨b6,rfl,rfl⟩
 refine J 6 ?_
 refine .c call87 rfl (Fw hp hn (by omega) hfn hpc hfl) fun _ _=>?_
 refine J 1 ?_
 refine .p (.extract (v:=.agg (dI ((gE v.p.p (s.t n)).getD Ins.z)).toArray) rfl rfl) ?_
 refine .p (.extract (v:=.bool (gE v.p.p (s.t n)).isSome) rfl rfl) ?_
 refine .aw rfl (af.alloc rfl zeroValue131 rfl) ?_
 rintro _ _ ⟨b7,rfl,rfl⟩
 refine J 8 ?_
 refine .p (.la rfl (Cells.a (cs:=dI ((gE v.p.p (s.t n)).getD Ins.z)))) ?_
 refine .p (.IX (fun _ _ _=>lh b (qS s n ((gE v.p.p (s.t n)).getD Ins.z)) (.slice none 0 0) (.slice none 0 0)) rfl rfl rfl (by kernel_rfl)) ?_
 refine .aw rfl (af.box rfl rfl rfl) ?_
 rintro _ _ ⟨b20,rfl,rfl⟩
 refine J 3 ?_
 refine .nJ (X:=Unit) [21,22,23,24,25,26,27,28,29,30,31,32,33,34,35,36,37,38,39,40,41,42,43,44,45,46,47,48,49,50] (fun _=>True) (fun _=>[]) (fun _=>[cB b20 b v (eW v.p.p s n choice),arr b6 0 (xH (.slice none 0 0) iZ.z),A,F]) ?_ ?_
 ·refine JD 6 (fun h22=>?_) fun h22=>?_
  ·have hq:gE v.p.p (s.t n)=none:=Option.isNone_iff_eq_none.mp (by simpa using h22)
   refine J 3 ?_
   refine .p (.jt (fun v1=>[v1,(.int .i64 0),(.int .i64 0),(.int .i64 0),(.int .u64 0)]) rfl (by kernel_rfl)) ?_
   refine J 2 ?_
   refine .aw rfl (af.Kj (by exact sizeOf131) rfl rfl rfl rfl) ?_
   rintro _ _ ⟨rfl,rfl⟩
   refine J 5 ?_
   refine .to (A:=cB b20 b v (qS s n ⟨23,0,0,0,0⟩)) (Bs:=[arr b20 0 (lh b (qS s n ⟨23,0,0,0,0⟩) (.slice none 0 0) (.slice none 0 0)),bV b v (qS s n ⟨23,0,0,0,0⟩).s]) .auto (Ac rfl rfl) ?_
   refine .c call88 rfl (lj (a:=(qS s n ⟨23,0,0,0,0⟩)) (x:=0) (y:=0) (e:=0) (fin:=true) hn (by show s.au.length≤_;omega)) fun _ _=>?_
   refine J 4 ?_
   refine .c call89 rfl (wK (a:=(qS s n ⟨23,0,0,0,0⟩).say 0 0 0 true) (x:=0) hn hr.T (Nat.zero_le _) (Nat.zero_le _)) fun _ _=>?_
   refine J 1 ?_
   refine .eY () .auto ?_ ?_ ?_
   ·trivial
   ·exact trivial
   ·rw[uR hq];exact fun w s=>aK.kept .auto w s
  ·obtain⟨i,hq⟩:∃ i,gE v.p.p (s.t n)=some i:=Option.isSome_iff_exists.mp (by simpa using h22)
   rw[show((gE v.p.p (s.t n)).getD Ins.z)=i from by rw[hq];rfl]
   have hI:=hr.I i hq
   refine JD 7 (fun h33=>?_) fun h33=>?_
   ·refine J 2 ?_
    refine .to (A:=cB b20 b v (qS s n i)) (Bs:=[arr b20 0 (lh b (qS s n i) (.slice none 0 0) (.slice none 0 0)),bV b v (qS s n i).s]) .auto (Ac rfl rfl) ?_
    refine .c call90 rfl (CM (a:=(qS s n i)) hn hr.T (Nat.zero_le _) (Nat.zero_le _) (by show s.au.length≤_;omega) hI (by show(s.thr n).pc≤_;omega) hr.m) fun _ _=>?_
    refine J 1 ?_
    refine .eY () .auto ?_ ?_ ?_
    ·trivial
    ·exact trivial
    ·rw[sS hq h33];exact fun w s=>aK.kept .auto w s
   ·refine .fr (A:=bV b v s) .auto bx ?_
    refine J 1 ?_
    refine .draw [arr b20 0 (lh b (qS s n i) (.slice none 0 0) (.slice none 0 0))] [1,1,1,1,1,1,1,1,1,1,1,1,3] rfl (by kernel_rfl) ?_
    refine J 4 ?_
    refine .p (.aD n underlying54 sizeOf53 rfl rfl rfl (by omega)) ?_
    refine J 1 ?_
    refine .p (.ld rfl (Cell.t (by first | omega | exact hn) rfl)) ?_
    refine .p (.add rfl rfl (by omega)) ?_
    refine J 2 ?_
    refine .p (.aD n underlying54 sizeOf53 rfl rfl rfl (by omega)) ?_
    refine J 1 ?_
    refine .d3 rfl (af.KX sizeOf3 rfl rfl (by first | omega | exact hn)) ?_
    rintro _ _ ⟨rfl,rfl⟩
    refine J 5 ?_
    refine .to (A:=cB b20 b v (HF s n i)) (Bs:=[arr b20 0 (lh b (HF s n i) (.slice none 0 0) (.slice none 0 0)),bV b v (HF s n i).s]) .auto (Ac rfl rfl) ?_
    refine .c call91 rfl (Fu (a:=(HF s n i)) (choice:=choice) (hr.C i hq h33)) fun _ _=>?_
    refine J 1 ?_
    refine .eY () .auto ?_ ?_ ?_
    ·trivial
    ·exact trivial
    ·rw[uT hq h33];exact fun w s=>aK.kept .auto w s
 ·rintro⟨⟩ -
  obtain⟨a,ha⟩:∃ a,a=(eW v.p.p s n choice):=⟨_,rfl⟩
  rw[← ha] at hg
  rw[BI, ← ha]
  refine .o2 (C:=cB b20 b v (a)) .auto rfl ?_
  rintro vw vl -
  refine .fr (A:=bV b v (a).s) .auto bx ?_
  refine .o1 (C:=iL dr 6 b 337 a.s.au) .auto rfl ?_
  rintro vr -
  refine J 1 ?_
  refine .draw [arr b20 0 (lh b a vw vl)] [0,1,1,1,1,1,1,1,1,2,1,1,3] rfl (by kernel_rfl) ?_
  refine J 9 ?_
  refine .d2 rfl Kept.auto (af.append rfl underlying49 underlying49 typeInfo101 rfl rfl rfl (by decide) rfl rfl .auto Rd.s (by omega) (rP _)) (by rintro _ _ ⟨v60,rfl,rfl⟩;exact Kept.auto) ?_
  rintro _ _ ⟨v60,rfl,rfl⟩
  refine J 2 ?_
  refine .d3 rfl (af.nf sizeOf49 rfl rfl rfl) ?_
  rintro _ _ ⟨rfl,rfl⟩
  refine J 7 ?_
  refine .p (.la rfl (Cells.jA (ds:=xH vw a.e) (Cells.a (cs:=lh b a vw vl)) rfl)) ?_
  refine .aw rfl (af.Eo (vs:=[.bool a.e.bE,.bool a.e.ended,.bool a.e.yielded]) (by exact sizeOf96) rfl rfl rfl rfl) ?_
  rintro _ _ ⟨rfl,rfl⟩
  refine J 3 ?_
  refine .fw rfl rfl isAgg96 (by exact sizeOf96) Cells.a fun w s=>⟨vw,?_,trivial,ar .auto s⟩
  rfl
theorem FO{W:World}{b:Nat}{v:RV}{s:RSp}{n:Int}:Fn Tryz.prog W 15 [ptr b,.int .i64 n] [bV b v s] Unit (fun _=>.tuple #[.agg (s.look n).toArray,.bool (s.seen n)]) (fun _=>True) (fun _=>[bV b v s]):=by
 refine Fn.intro (N:=43) func15 rfl ntmps15 rfl fun F=>?_
 show ax _ _ _ _ _ _ [bV b v s,F]
 refine .fr (A:=bV b v s) .auto bx ?_
 refine J 2 ?_
 refine .aw rfl (af.alloc rfl zeroValue41 rfl) ?_
 rintro _ _ ⟨b4,rfl,rfl⟩
 refine J 9 ?_
 apply aQ.ga 3 12 9 [9,10,11,12] rfl
 ·intro h9
  exact JS 4
 ·intro h9
  exact JS 4
 refine J 1 ?_
 apply aQ.gj 9 22 13 [13,14,15,16,17,18,19,20,21,22] rfl
 ·intro h13
  simp only[Bool.or_eq_false_iff,decide_eq_false_iff_not] at h13
  refine J 4 ?_
  refine .g (.aD n.toNat underlying54 sizeOf53 rfl rfl (by omega) (by omega)) ?_
  refine J 1 ?_
  refine .g (.ld rfl (Cell.tz (by first | omega | exact hn))) ?_
  exact JS 3
 ·intro h13
  exact JS 10
 refine JD 2 (fun h22=>?_) fun h22=>?_
 ·simp only[Bool.or_eq_true,decide_eq_true_eq,Bool.not_eq_true'] at h22
  have hs:s.seen n=false:=by
   unfold RSp.seen
   show(decide (0≤n) && decide (n<16) && (s.thr n.toNat).used)=false
   cases e:(s.thr n.toNat).used with
   | false=>simp
   | true =>
    rw[e] at h22
    simp at h22 ⊢
    omega
  have hl:s.look n=Ad Hq:=by unfold RSp.look;rw[if_neg (by rw[hs];simp)]
  refine J 2 ?_
  refine .p (.qO ([(.int .u64 0),(.int .i64 0),(.int .i64 0),(.int .i64 0),(.int .u64 0),(.int .u64 0),(.int .u64 0),(.int .u64 0),(.int .u64 0),(.int .u64 0),(.int .u64 0),(.int .u64 0),(.int .u64 0)]) (by kernel_rfl)) ?_
  refine J 6 ?_
  rw[hs,hl]
  refine .gT rfl rfl isAgg41 (by exact sizeOf41) Cells.a rfl fun w s=>⟨(),?_,trivial,ar .auto s⟩
  rfl
 ·simp only[Bool.or_eq_false_iff,decide_eq_false_iff_not,Bool.not_eq_false'] at h22
  have hs:s.seen n=true:=by
   unfold RSp.seen
   show(decide (0≤n) && decide (n<16) && (s.thr n.toNat).used)=true
   obtain⟨h1,h2⟩:=h22
   simp only[Bool.and_eq_true,decide_eq_true_eq]
   exact⟨by omega,by simpa using h2⟩
  have hl:s.look n=Ad (s.thr n.toNat):=by unfold RSp.look;rw[if_pos hs];rfl
  refine J 8 ?_
  refine .p (.aD n.toNat underlying54 sizeOf53 rfl rfl (by omega) (by omega)) ?_
  refine .p (.la rfl (Cells.t (f:=s.thr) (by omega))) ?_
  refine .aw rfl (af.alloc rfl zeroValue53 rfl) ?_
  rintro _ _ ⟨b6,rfl,rfl⟩
  refine J 14 ?_
  refine .p (.la rfl (Cells.jA (ds:=[.int .u64 ((s.thr n.toNat).aq 0),.int .u64 ((s.thr n.toNat).aq 1),.int .u64 ((s.thr n.toNat).aq 2),.int .u64 ((s.thr n.toNat).aq 3),.int .u64 ((s.thr n.toNat).aq 4),.int .u64 ((s.thr n.toNat).aq 5),.int .u64 ((s.thr n.toNat).aq 6),.int .u64 ((s.thr n.toNat).aq 7)]) (Cells.a (cs:=Bt (s.thr n.toNat))) rfl)) ?_
  refine J 2 ?_
  refine .p (.DI (fun _ _ _ _ _ _=>Ad (s.thr n.toNat)) rfl rfl rfl rfl rfl rfl (by kernel_rfl)) ?_
  refine J 5 ?_
  rw[hs,hl]
  refine .gT rfl rfl isAgg41 (by exact sizeOf41) Cells.a rfl fun w s=>⟨(),?_,trivial,ar .auto s⟩
  rfl
set_option maxHeartbeats 1000000 in
theorem HQ{W:World}{A:aa}{v:bN}(hp:fp W [A] v)(hc:eg v.p=true):Fn Tryz.prog W 12 [.agg (eH v).toArray] [A] (Nat×Value) (fun x=>ptr x.1) (fun _=>True) (fun x=>[bV x.1 ⟨v,x.2⟩ (RSp.new v.p),A]):=by
 refine Fn.intro (N:=53) func12 rfl ntmps12 rfl fun F=>?_
 haveI hI1:∀ (H:List aa) [bX H A],aI W H v.fv cn 1 v.fs:=fun H h=>⟨hp.fs.at h.has⟩
 haveI hI2:∀ (H:List aa) [bX H A],aI W H v.sv aL 1 v.aU:=fun H h=>⟨hp.aU.at h.has⟩
 haveI hI3:∀ (H:List aa) [bX H A],aI W H v.pv aL 1 v.aG:=fun H h=>⟨hp.aG.at h.has⟩
 show ax _ _ _ _ _ _ [A,F]
 have hcs:=nY hc
 have hw:0≤v.words∧v.words≤64:=hcs.2.2.1
 have hm:0≤v.aB∧v.aB≤4:=hcs.2.2.2.1
 have hcn:0≤v.conds∧v.conds≤4:=hcs.2.2.2.2.1
 have hbl:0≤v.blocks∧v.blocks≤64:=hcs.2.2.2.2.2.1
 have hsl:v.aU.length≤4:=hcs.2.2.2.2.2.2.2.1
 have hpl:v.aG.length≤4:=hcs.2.2.2.2.2.2.2.2.1
 refine J 2 ?_
 refine .aw rfl (af.box rfl rfl rfl) ?_
 rintro _ _ ⟨b1,rfl,rfl⟩
 refine J 4 ?_
 refine .xj [arr b1 0 (eH v),A] [0,0,0,4,0,0,4,0,0,4,4,0,0,2,0,0,0,4,0,0,4,0,4,0] [0,1,2,4,5,7,8,11,12,14,15,16,18,19,10,13,3,6,9,17,20,21,22,23] rfl (by kernel_rfl) ?_
 refine bQ.q rfl rfl rfl Kept.auto (Y.Gl isAgg25 rfl Cells.a (by exact sizeOf25)) ?_
 refine bQ.q rfl rfl rfl Kept.auto (Y.dc 1 3 underlying25 rfl sizeOf3 rfl) ?_
 refine bQ.q rfl rfl rfl Kept.auto (Y.load isAgg3 rfl (Cell.a (by rfl))) ?_
 refine bQ.q rfl rfl rfl Kept.auto (Y.dc 2 3 underlying25 rfl sizeOf3 rfl) ?_
 refine bQ.q rfl rfl rfl Kept.auto (Y.load isAgg3 rfl (Cell.a (by rfl))) ?_
 refine bQ.q rfl rfl rfl Kept.auto (Y.dc 3 3 underlying25 rfl sizeOf3 rfl) ?_
 refine bQ.q rfl rfl rfl Kept.auto (Y.load isAgg3 rfl (Cell.a (by rfl))) ?_
 refine bQ.q rfl rfl rfl Kept.auto (Y.dc 4 23 underlying25 rfl sizeOf23 rfl) ?_
 refine bQ.q rfl rfl rfl Kept.auto (Y.load isAgg23 rfl (Cell.a (by rfl))) ?_
 refine bQ.q rfl rfl rfl Kept.auto (Y.dc 4 23 underlying25 rfl sizeOf23 rfl) ?_
 refine bQ.q rfl rfl rfl Kept.auto (Y.load isAgg23 rfl (Cell.a (by rfl))) ?_
 refine bQ.q rfl rfl rfl Kept.auto (Y.DC underlying23 rfl Rd.s) ?_
 refine bQ.q rfl rfl rfl Kept.auto (Y.dc 6 3 underlying25 rfl sizeOf3 rfl) ?_
 refine bQ.q rfl rfl rfl Kept.auto (Y.load isAgg3 rfl (Cell.a (by rfl))) ?_
 refine bQ.fresh rfl rfl rfl (by decide) Kept.auto (BW 3 rfl (by kernel_rfl)) ?_
 rintro b15
 refine bQ.to (A:=sl aL 1 (.slice (some ⟨b15,0,none⟩) 0 0) ([]:List Int)) (Bs:=[]) .nil (fun h e=>.inl ⟨⟨_,rfl⟩,rfl,e⟩) ?_
 refine bQ.append rfl (.inl rfl) rfl (fun h=>Kept.auto) underlying23 underlying23 typeInfo3 rfl rfl rfl (by decide) rfl rfl .auto Rd.s (by simp only[List.length_nil];omega) (nU _) (fun h _=>Kept.auto) ?_
 rintro o18 n18 c18
 refine bQ.fresh rfl rfl rfl (by decide) Kept.auto (fz (enc:=bF) (k:=1) 0 v.words.toNat underlying55 typeInfo38 rfl rfl rfl rfl (by decide) (by decide) rfl rfl (by omega) (by omega) (by omega)) ?_
 rintro b8
 refine bQ.fresh rfl rfl rfl (by decide) Kept.auto (fz (enc:=ef) (k:=2) ((Value.slice none 0 0:Value),(⟨0,[]⟩:gp)) v.aB.toNat underlying56 typeInfo287 rfl rfl rfl rfl (by decide) (by decide) rfl rfl (by omega) (by omega) (by omega)) ?_
 rintro b11
 refine bQ.fresh rfl rfl rfl (by decide) Kept.auto (fz (enc:=cn) (k:=1) ((Value.slice none 0 0:Value),([]:List dh)) v.conds.toNat underlying57 typeInfo288 rfl rfl rfl rfl (by decide) (by decide) rfl rfl (by omega) (by omega) (by omega)) ?_
 rintro b14
 refine bQ.fresh rfl rfl rfl (by decide) Kept.auto (fz (enc:=cn) (k:=1) ((Value.slice none 0 0:Value),([]:List Int)) v.aU.length underlying58 typeInfo23 rfl rfl rfl rfl (by decide) (by decide) rfl rfl (by omega) (by omega) (by omega)) ?_
 rintro b22
 refine bQ.fresh rfl rfl rfl (by decide) Kept.auto (fz (enc:=bF) (k:=1) 0 v.blocks.toNat underlying55 typeInfo38 rfl rfl rfl rfl (by decide) (by decide) rfl rfl (by omega) (by omega) (by omega)) ?_
 rintro b25
 refine bQ.q rfl rfl rfl Kept.auto (Y.Ly (fun _ v3 v4 v5 v6 v7 v9=>HI v v3 v4 v5 v6 v7 v9) rfl rfl rfl rfl rfl rfl rfl (by kernel_rfl)) ?_
 refine bQ.fresh rfl rfl rfl (by decide) Kept.auto (pH rfl rfl) ?_
 rintro b27
 refine bQ.q rfl rfl rfl Kept.auto (Y.a rfl) ?_
 refine bQ.nil ?_
 refine J 8 ?_
 refine .fr (A:=arr b27 0 (HI v (.slice (some ⟨b8,0,none⟩) v.words.toNat v.words.toNat) (.slice (some ⟨b11,0,none⟩) v.aB.toNat v.aB.toNat) (.slice (some ⟨b14,0,none⟩) v.conds.toNat v.conds.toNat) (.slice o18 n18 c18) (.slice (some ⟨b22,0,none⟩) v.aU.length v.aU.length) (.slice (some ⟨b25,0,none⟩) v.blocks.toNat v.blocks.toNat))) .auto HJ ?_
 rw[List.nil_append]
 refine .to (A:=sl bF 1 (.slice (some ⟨b8,0,none⟩) v.words.toNat v.words.toNat) (List.replicate v.words.toNat 0)) .auto (jD rfl) ?_
 refine .to (A:=sl ef 2 (.slice (some ⟨b11,0,none⟩) v.aB.toNat v.aB.toNat) (List.replicate v.aB.toNat ((Value.slice none 0 0:Value),(⟨0,[]⟩:gp)))) .auto (jD rfl) ?_
 refine .to (A:=sl cn 1 (.slice (some ⟨b14,0,none⟩) v.conds.toNat v.conds.toNat) (List.replicate v.conds.toNat ((Value.slice none 0 0:Value),([]:List dh)))) .auto (jD rfl) ?_
 refine .to (A:=sl cn 1 (.slice (some ⟨b22,0,none⟩) v.aU.length v.aU.length) (List.replicate v.aU.length ((Value.slice none 0 0:Value),([]:List Int)))) .auto (jD rfl) ?_
 refine .to (A:=sl bF 1 (.slice (some ⟨b25,0,none⟩) v.blocks.toNat v.blocks.toNat) (List.replicate v.blocks.toNat 0)) .auto (jD rfl) ?_
 refine .to (A:=eG ef 2 ej (.slice (some ⟨b11,0,none⟩) v.aB.toNat v.aB.toNat) (List.replicate v.aB.toNat ⟨0,[]⟩)) .auto (wS HL) ?_
 refine .to (A:=eG cn 1 lH (.slice (some ⟨b14,0,none⟩) v.conds.toNat v.conds.toNat) (List.replicate v.conds.toNat [])) .auto (wS HM) ?_
 refine .to (A:=eG cn 1 jV (.slice (some ⟨b22,0,none⟩) v.aU.length v.aU.length) (List.replicate v.aU.length [])) .auto (wS HN) ?_
 refine .to (A:=eG dR 4 dS (.slice none 0 0) []) (Bs:=[]) .nil HK ?_
 refine .to (A:=sl ec 4 (.slice none 0 0) []) (Bs:=[]) .nil FM ?_
 refine .to (A:=sl dr 6 (.slice none 0 0) []) (Bs:=[]) .nil FM ?_
 refine .cM (X:=Nat×Value) [4,28,29,30,31,32,33,34,35,36,37,38,39,40,41,42,43,44,45,46,47,48,49] (fun z=>v.aG.length-z.1) (fun z=>z.1≤v.aG.length) (fun z=>[(4,some (.int .i64 (z.1:Int)))]) (fun z=>[bV b27 ⟨v,z.2⟩ (BJ v.p ((v.aG.take z.1).map qT)),arr b1 0 (eH v),A,F]) (0,.slice none 0 0) ?_ ?_ ?_ ?_
 ·exact Nat.zero_le _
 ·exact⟨rfl,trivial⟩
 ·exact fun w s=>aK.kept .auto w s
 rintro⟨k,u⟩ hk
 simp only at hk
 have htl:((v.aG.take k).map qT).length≤4:=by rw[List.length_map,List.length_take];omega
 refine JD 10 (fun h32=>?_) fun h32=>?_
 ·refine .fr (A:=bV b27 ⟨v,u⟩ (BJ v.p (((v.aG.take k).map qT)))) .auto bx ?_
  refine .o1 (C:=eG dR 4 dS u ((v.aG.take k).map qT)) .auto rfl ?_
  rintro xs hxs
  have hxl:xs.length≤4:=by rw[← List.length_map (f:=(·.2)),hxs];exact htl
  refine J 4 ?_
  refine .draw [arr b27 317 [u],arr b1 0 (eH v),A] [0,0,0,0,0,1,1,1,1,1,1,2,2,1,1,3] rfl (by kernel_rfl) ?_
  refine J 8 ?_
  obtain⟨x,hx⟩:=ay (show k<v.aG.length by omega)
  refine .p (.ix k rfl rfl rfl (by omega)) ?_
  refine J 1 ?_
  refine .p (.jt (fun v1=>[v1,(.slice none 0 0),(.slice none 0 0),(.slice none 0 0)]) rfl (by kernel_rfl)) ?_
  refine .d2 rfl Kept.auto (af.gQ 140 rfl rfl (by kernel_rfl)) (by rintro _ _ ⟨b46,rfl,rfl⟩;exact Kept.auto) ?_
  rintro _ _ ⟨b46,rfl,rfl⟩
  refine .d2 rfl Kept.auto (af.fi (enc:=dR) (k:=4) (((Value.slice none 0 0:Value),(Value.slice none 0 0:Value),(Value.slice none 0 0:Value)),qT x) rfl underlying59 underlying59 typeInfo140 rfl rfl rfl (by decide) rfl rfl rfl .auto rfl .auto (by omega) rfl) (by rintro _ _ ⟨v47,rfl,rfl⟩;exact Kept.auto) ?_
  rintro _ _ ⟨v47,rfl,rfl⟩
  refine J 2 ?_
  refine .d3 rfl (af.nf sizeOf59 rfl rfl rfl) ?_
  rintro _ _ ⟨rfl,rfl⟩
  refine J 8 ?_
  refine .to (A:=eG dR 4 dS v47 (((v.aG.take k).map qT)++[qT x])) (Bs:=[sl dR 4 v47 (xs++[(((Value.slice none 0 0:Value),(Value.slice none 0 0:Value),(Value.slice none 0 0:Value)),qT x)]),aT dS xs]) .auto (FL hxs HO) ?_
  rw[FN hx]
  refine .bf (k+1,v47) .auto rfl ?_ ?_ ?_ ?_
  ·show v.aG.length-(k+1)<v.aG.length-k;omega
  ·show k+1≤_;omega
  ·exact⟨rfl,trivial⟩
  ·exact fun w s=>aK.kept .auto w s
 ·refine J 8 ?_
  obtain rfl:k=v.aG.length:=by omega
  rw[List.take_length]
  refine .c call68 rfl (uB (b:=b27) (v:=⟨v,u⟩) (s:=(BJ v.p (v.aG.map qT))) (f:=0) (arg:=0)) fun _ _=>?_
  refine J 9 ?_
  rw[HH]
  refine .aC rfl rfl fun w s=>⟨(b27,u),?_,trivial,ar .auto s⟩
  rfl
end Go.SLYtefdijgllbkmfaaGreat
namespace Go.SLYtefdijgllbkmfaaGreat
open Go Go.RowKit Go.Proofs Go.Proofs.Tryz
attribute [local irreducible] ax aQ bu cj bQ Y
theorem J6{W:World}{A:aa}{v:Value}{xs:List Int}(hr:Rd W [A] bF 1 v xs)(hl:xs.length≤1000000000):Fn Tryz.prog W 77 [v] [A] Value (fun u=>u) (fun _=>True) (fun u=>[sl bF 1 u xs,A]):=by
 refine Fn.intro (N:=8) func77 rfl ntmps77 rfl fun F=>?_
 haveI hRI:∀ (H:List aa) [bX H A],aI W H v bF 1 xs:=fun H h=>⟨hr.at h.has⟩
 show ax _ _ _ _ _ _ [A,F]
 refine J 9 ?_
 refine .p (.AH underlying55 rfl rfl Rd.s) ?_
 refine JD 2 (fun h4=>?_) fun h4=>?_
 ·refine J 7 ?_
  refine .fb (fun w s=>Rd.AJ Rd.s h4 w s) fun hn=>?_
  subst hn
  refine .to (A:=sl bF 1 (.slice none 0 0) ([]:List Int)) (Bs:=[]) .nil (fun h e=>.inl ⟨⟨_,rfl⟩,rfl,e⟩) ?_
  refine .aC rfl rfl fun w s=>⟨_,?_,trivial,ar .auto s⟩
  rfl
 ·refine J 4 ?_
  refine .aw rfl (af.gQ 38 rfl rfl (by kernel_rfl)) ?_
  rintro _ _ ⟨b5,rfl,rfl⟩
  refine J 1 ?_
  refine .to (A:=sl bF 1 (.slice (some ⟨b5,0,none⟩) 0 0) ([]:List Int)) (Bs:=[]) .nil (fun h e=>.inl ⟨⟨_,rfl⟩,rfl,e⟩) ?_
  refine .aw rfl (af.append rfl underlying55 underlying55 typeInfo38 rfl rfl rfl (by decide) rfl rfl .auto Rd.s (by simp;omega) (nV _)) ?_
  rintro _ _ ⟨v7,rfl,rfl⟩
  refine J 4 ?_
  refine .aC rfl rfl fun w s=>⟨_,?_,trivial,ar .auto s⟩
  rfl
theorem Lc{W:World}{v:Value}{xs:List Int}:Fn Tryz.prog W 76 [v] [sl bF 1 v xs] Value (fun u=>u) (fun _=>True) (fun u=>[sl bF 1 u xs]):=by
 refine Fn.intro (N:=9) func76 rfl ntmps76 rfl fun F=>?_
 show ax _ _ _ _ _ _ [sl bF 1 v xs,F]
 refine .fb (fun w s=>(Rd.sl (W:=W) .here w s).1) fun hr=>?_
 obtain⟨a,cap,rfl,hle, -⟩:=hr
 refine J 12 ?_
 refine .p (.AG xs.length xs.length underlying55 sizeOf38 rfl rfl rfl rfl rfl (Nat.le_refl _) hle) ?_
 refine J 4 ?_
 refine .fx .auto AK ?_
 rintro J -
 refine .aC rfl rfl fun w s=>⟨_,?_,trivial,ar .auto s⟩
 rfl
theorem J7{W:World}{A:aa}{v:Value}{xs:List Rec}(hr:Rd W [A] dr 6 v xs)(hl:xs.length≤1000000000):Fn Tryz.prog W 75 [v] [A] Value (fun u=>u) (fun _=>True) (fun u=>[sl dr 6 u xs,A]):=by
 refine Fn.intro (N:=8) func75 rfl ntmps75 rfl fun F=>?_
 haveI hRI:∀ (H:List aa) [bX H A],aI W H v dr 6 xs:=fun H h=>⟨hr.at h.has⟩
 show ax _ _ _ _ _ _ [A,F]
 refine J 9 ?_
 refine .p (.AH underlying49 rfl rfl Rd.s) ?_
 refine JD 2 (fun h4=>?_) fun h4=>?_
 ·refine J 7 ?_
  refine .fb (fun w s=>Rd.AJ Rd.s h4 w s) fun hn=>?_
  subst hn
  refine .to (A:=sl dr 6 (.slice none 0 0) ([]:List Rec)) (Bs:=[]) .nil (fun h e=>.inl ⟨⟨_,rfl⟩,rfl,e⟩) ?_
  refine .aC rfl rfl fun w s=>⟨_,?_,trivial,ar .auto s⟩
  rfl
 ·refine J 4 ?_
  refine .aw rfl (af.gQ 101 rfl rfl (by kernel_rfl)) ?_
  rintro _ _ ⟨b5,rfl,rfl⟩
  refine J 1 ?_
  refine .to (A:=sl dr 6 (.slice (some ⟨b5,0,none⟩) 0 0) ([]:List Rec)) (Bs:=[]) .nil (fun h e=>.inl ⟨⟨_,rfl⟩,rfl,e⟩) ?_
  refine .aw rfl (af.append rfl underlying49 underlying49 typeInfo101 rfl rfl rfl (by decide) rfl rfl .auto Rd.s (by simp;omega) (rP _)) ?_
  rintro _ _ ⟨v7,rfl,rfl⟩
  refine J 4 ?_
  refine .aC rfl rfl fun w s=>⟨_,?_,trivial,ar .auto s⟩
  rfl
theorem Ld{W:World}{v:Value}{xs:List Rec}:Fn Tryz.prog W 74 [v] [sl dr 6 v xs] Value (fun u=>u) (fun _=>True) (fun u=>[sl dr 6 u xs]):=by
 refine Fn.intro (N:=9) func74 rfl ntmps74 rfl fun F=>?_
 show ax _ _ _ _ _ _ [sl dr 6 v xs,F]
 refine .fb (fun w s=>(Rd.sl (W:=W) .here w s).1) fun hr=>?_
 obtain⟨a,cap,rfl,hle, -⟩:=hr
 refine J 12 ?_
 refine .p (.AG xs.length xs.length underlying49 sizeOf101 rfl rfl rfl rfl rfl (Nat.le_refl _) hle) ?_
 refine J 4 ?_
 refine .fx .auto AK ?_
 rintro J -
 refine .aC rfl rfl fun w s=>⟨_,?_,trivial,ar .auto s⟩
 rfl
theorem J8{W:World}{A:aa}{v:Value}{xs:List Ins}(hr:Rd W [A] dI 5 v xs)(hl:xs.length≤1000000000):Fn Tryz.prog W 63 [v] [A] Value (fun u=>u) (fun _=>True) (fun u=>[sl dI 5 u xs,A]):=by
 refine Fn.intro (N:=8) func63 rfl ntmps63 rfl fun F=>?_
 haveI hRI:∀ (H:List aa) [bX H A],aI W H v dI 5 xs:=fun H h=>⟨hr.at h.has⟩
 show ax _ _ _ _ _ _ [A,F]
 refine J 9 ?_
 refine .p (.AH underlying128 rfl rfl Rd.s) ?_
 refine JD 2 (fun h4=>?_) fun h4=>?_
 ·refine J 7 ?_
  refine .fb (fun w s=>Rd.AJ Rd.s h4 w s) fun hn=>?_
  subst hn
  refine .to (A:=sl dI 5 (.slice none 0 0) ([]:List Ins)) (Bs:=[]) .nil (fun h e=>.inl ⟨⟨_,rfl⟩,rfl,e⟩) ?_
  refine .aC rfl rfl fun w s=>⟨_,?_,trivial,ar .auto s⟩
  rfl
 ·refine J 4 ?_
  refine .aw rfl (af.gQ 131 rfl rfl (by kernel_rfl)) ?_
  rintro _ _ ⟨b5,rfl,rfl⟩
  refine J 1 ?_
  refine .to (A:=sl dI 5 (.slice (some ⟨b5,0,none⟩) 0 0) ([]:List Ins)) (Bs:=[]) .nil (fun h e=>.inl ⟨⟨_,rfl⟩,rfl,e⟩) ?_
  refine .aw rfl (af.append rfl underlying128 underlying128 typeInfo131 rfl rfl rfl (by decide) rfl rfl .auto Rd.s (by simp;omega) (DW _)) ?_
  rintro _ _ ⟨v7,rfl,rfl⟩
  refine J 4 ?_
  refine .aC rfl rfl fun w s=>⟨_,?_,trivial,ar .auto s⟩
  rfl
theorem HR{W:World}{A:aa}{v:Value}{xs:List (Value×List Ins)}(hr:Rd W [A] cn 1 v xs)(hl:xs.length≤1000000000)(hone:∀ y∈xs, ∀ c∈cn y,c.oneCell'=true):Fn Tryz.prog W 62 [v] [A] Value (fun u=>u) (fun _=>True) (fun u=>[sl cn 1 u xs,A]):=by
 refine Fn.intro (N:=8) func62 rfl ntmps62 rfl fun F=>?_
 haveI hRI:∀ (H:List aa) [bX H A],aI W H v cn 1 xs:=fun H h=>⟨hr.at h.has⟩
 show ax _ _ _ _ _ _ [A,F]
 refine J 9 ?_
 refine .p (.AH underlying22 rfl rfl Rd.s) ?_
 refine JD 2 (fun h4=>?_) fun h4=>?_
 ·refine J 7 ?_
  refine .fb (fun w s=>Rd.AJ Rd.s h4 w s) fun hn=>?_
  subst hn
  refine .to (A:=sl cn 1 (.slice none 0 0) ([]:List (Value×List Ins))) (Bs:=[]) .nil (fun h e=>.inl ⟨⟨_,rfl⟩,rfl,e⟩) ?_
  refine .aC rfl rfl fun w s=>⟨_,?_,trivial,ar .auto s⟩
  rfl
 ·refine J 4 ?_
  refine .aw rfl (af.gQ 128 rfl rfl (by kernel_rfl)) ?_
  rintro _ _ ⟨b5,rfl,rfl⟩
  refine J 1 ?_
  refine .to (A:=sl cn 1 (.slice (some ⟨b5,0,none⟩) 0 0) ([]:List (Value×List Ins))) (Bs:=[]) .nil (fun h e=>.inl ⟨⟨_,rfl⟩,rfl,e⟩) ?_
  refine .aw rfl (af.append rfl underlying22 underlying22 typeInfo128 rfl rfl rfl (by decide) rfl rfl .auto Rd.s (by simp;omega) hone) ?_
  rintro _ _ ⟨v7,rfl,rfl⟩
  refine J 4 ?_
  refine .aC rfl rfl fun w s=>⟨_,?_,trivial,ar .auto s⟩
  rfl
theorem J9{W:World}{A:aa}{v:Value}{xs:List Int}{x:Int}(hr:Rd W [A] aL 1 v xs)(hl:xs.length≤1000000000):Fn Tryz.prog W 318 [v,.int .i64 x] [A] Unit (fun _=>.int .i64 (idxOf x xs)) (fun _=>True) (fun _=>[A]):=by
 refine Fn.intro (N:=19) func318 rfl ntmps318 rfl fun F=>?_
 haveI hRI:∀ (H:List aa) [bX H A],aI W H v aL 1 xs:=fun H h=>⟨hr.at h.has⟩
 show ax _ _ _ _ _ _ [A,F]
 refine J 14 ?_
 refine .cM (X:=Nat) [4,5,8,9,10,11,12,13,14,15,16,17,18] (fun k=>xs.length-k) (fun k=>k≤xs.length∧idxOf x xs=idxFrom x (xs.drop k) k) (fun k=>[(8,some (.int .i64 (k:Int)))]) (fun k=>[A,F]) 0 ?_ ?_ ?_ ?_
 ·exact⟨Nat.zero_le _,by simp[idxOf]⟩
 ·exact⟨rfl,trivial⟩
 ·exact fun w s=>aK.kept .auto w s
 rintro k ⟨hk,hn⟩
 refine JD 6 (fun h9=>?_) fun h9=>?_
 ·refine J 15 ?_
  obtain⟨y,hy⟩:=ay (show k<xs.length by omega)
  refine JD 5 (fun h=>?_) fun h=>?_
  ·refine J 12 ?_
   refine .aC rfl rfl fun w s=>⟨(),?_,trivial,ar .auto s⟩
   rw[hn,Gx hy h]
  ·refine J 7 ?_
   refine .bf (k+1) .auto rfl ?_ ?_ ?_ ?_
   ·first | omega | (dsimp only;omega)
   ·exact⟨by omega,hn.trans (DX hy h)⟩
   ·exact⟨rfl,trivial⟩
   ·exact fun w s=>aK.kept .auto w s
 ·refine J 11 ?_
  refine .aC rfl rfl fun w s=>⟨(),?_,trivial,ar .auto s⟩
  rw[hn,Gy (by omega)]
theorem CY{W:World}{A:aa}{v:Value}{xs:List Int}{x:Int}(hr:Rd W [A] aL 1 v xs)(hl:xs.length≤1000000000):Fn Tryz.prog W 298 [v,.int .i64 x] [A] Unit (fun _=>.bool (xs.contains x)) (fun _=>True) (fun _=>[A]):=by
 refine Fn.intro (N:=9) func298 rfl ntmps298 rfl fun F=>?_
 show ax _ _ _ _ _ _ [A,F]
 refine J 9 ?_
 refine .c call318 rfl (J9 hr hl) fun _ _=>?_
 refine J 5 ?_
 refine .aC rfl rfl fun w s=>⟨(),?_,trivial,ar .auto s⟩
 rw[idxOf,vD]
end Go.SLYtefdijgllbkmfaaGreat
namespace Go.SLYtefdijgllbkmfaaGreat
open Go Go.RowKit Go.Proofs Go.Proofs.Tryz
attribute [local irreducible] ax aQ bu cj bQ Y
theorem fI{W:World}{n m:Int}:Fn Tryz.prog W 153 [.int .i64 n,.int .i64 m] [] Unit (fun _=>.bool (within n m)) (fun _=>True) (fun _=>[]):=by
 refine Fn.intro (N:=12) func153 rfl ntmps153 rfl fun F=>?_
 show ax _ _ _ _ _ _ [F]
 refine J 10 ?_
 apply aQ.fZ 4 11 7 [7,8,9,10,11] rfl
 ·intro h7
  exact JS 5
 ·intro h7
  exact JS 5
 exact JR 4 ()
theorem mo{W:World}{n:Int}{b:Bool}:Fn Tryz.prog W 155 [.int .i64 n,.bool b] [] Unit (fun _=>.bool (lM n b)) (fun _=>True) (fun _=>[]):=by
 refine Fn.intro (N:=18) func155 rfl ntmps155 rfl fun F=>?_
 show ax _ _ _ _ _ _ [F]
 refine J 10 ?_
 apply aQ.ga 10 17 7 [7,8,9,10,11,12,13,14,15,16,17] rfl
 ·intro h7
  refine J 2 ?_
  apply aQ.gI 3 12 9 [9,10,11,12] rfl
  ·intro h9
   refine J 4 ?_
   refine .tt .auto rfl (by first | exact fun _ h=>h | exact aK.kept .auto)
  ·intro h9
   refine J 4 ?_
   refine .tt .auto rfl (by first | exact fun _ h=>h | exact aK.kept .auto)
  refine J 1 ?_
  apply aQ.gI 3 16 13 [13,14,15,16] rfl
  ·intro h13
   refine J 4 ?_
   refine .tt .auto rfl (by first | exact fun _ h=>h | exact aK.kept .auto)
  ·intro h13
   refine J 4 ?_
   refine .tt .auto rfl (by first | exact fun _ h=>h | exact aK.kept .auto)
  refine J 2 ?_
  refine .tt .auto rfl (by first | exact fun _ h=>h | exact aK.kept .auto)
 ·intro h7
  refine J 11 ?_
  refine .tt .auto rfl (by first | exact fun _ h=>h | exact aK.kept .auto)
 exact JR 4 ()
theorem nB{W:World}{op:Int}:Fn Tryz.prog W 72 [.int .i64 op] [] Unit (fun _=>.int .i64 (cls op)) (fun _=>True) (fun _=>[]):=by
 refine Fn.intro (N:=24) func72 rfl ntmps72 rfl fun F=>?_
 show ax _ _ _ _ _ _ [F]
 refine J 12 ?_
 apply aQ.fZ 3 9 6 [6,7,8,9] rfl
 ·intro h6
  exact JS 4
 ·intro h6
  exact JS 4
 refine JD 3 (fun h3=>?_) fun h3=>?_
 ·simp only[Bool.and_eq_true,decide_eq_true_eq] at h3
  refine J 8 ?_
  refine .aC rfl rfl fun w s=>⟨(),?_,trivial,ar .auto s⟩
  refine ju ?_;unfold cls;repeat (first | rw[if_pos (by omega)] | rw[if_neg (by omega)])
 ·simp only[Bool.and_eq_false_iff,decide_eq_false_iff_not] at h3
  refine J 5 ?_
  apply aQ.fZ 3 16 13 [13,14,15,16] rfl
  ·intro h13
   exact JS 4
  ·intro h13
   exact JS 4
  refine JD 3 (fun h10=>?_) fun h10=>?_
  ·simp only[Bool.and_eq_true,decide_eq_true_eq] at h10
   refine J 8 ?_
   refine .aC rfl rfl fun w s=>⟨(),?_,trivial,ar .auto s⟩
   refine ju ?_;unfold cls;repeat (first | rw[if_pos (by omega)] | rw[if_neg (by omega)])
  ·simp only[Bool.and_eq_false_iff,decide_eq_false_iff_not] at h10
   refine J 5 ?_
   apply aQ.fZ 3 23 20 [20,21,22,23] rfl
   ·intro h20
    exact JS 4
   ·intro h20
    exact JS 4
   refine JD 3 (fun h17=>?_) fun h17=>?_
   ·simp only[Bool.and_eq_true,decide_eq_true_eq] at h17
    refine J 8 ?_
    refine .aC rfl rfl fun w s=>⟨(),?_,trivial,ar .auto s⟩
    refine ju ?_;unfold cls;repeat (first | rw[if_pos (by omega)] | rw[if_neg (by omega)])
   ·simp only[Bool.and_eq_false_iff,decide_eq_false_iff_not] at h17
    refine J 9 ?_
    refine .aC rfl rfl fun w s=>⟨(),?_,trivial,ar .auto s⟩
    refine ju ?_;unfold cls;repeat (first | rw[if_pos (by omega)] | rw[if_neg (by omega)])
theorem tc{W:World}{f:Form}{n:Int}(hf:f.n≤9223372036854775807):Fn Tryz.prog W 156 [.agg (ew f).toArray,.int .u64 n] [] Unit (fun _=>.bool (f.below n)) (fun _=>True) (fun _=>[]):=by
 refine Fn.intro (N:=24) func156 rfl ntmps156 rfl fun F=>?_
 show ax _ _ _ _ _ _ [F]
 refine J 2 ?_
 refine .aw rfl (af.box rfl rfl rfl) ?_
 rintro _ _ ⟨b2,rfl,rfl⟩
 refine JD 12 (fun h5=>?_) fun h5=>?_
 ·refine J 8 ?_
  refine .aC rfl rfl fun w s=>⟨(),?_,trivial,ar .auto s⟩
  rw[Form.below,if_pos h5]
 ·refine JD 8 (fun h8=>?_) fun h8=>?_
  ·refine J 10 ?_
   refine .aC rfl rfl fun w s=>⟨(),?_,trivial,ar .auto s⟩
   rw[Form.below,if_neg (by simp[h5]),if_pos h8]
  ·refine J 9 ?_
   apply aQ.fZ 6 23 17 [17,18,19,20,21,22,23] rfl
   ·intro h17
    refine J 3 ?_
    refine .g (.gh underlying3 underlying38 rfl (by omega)) ?_
    exact JS 3
   ·intro h17
    exact JS 7
   refine J 4 ?_
   refine .aC rfl rfl fun w s=>⟨(),?_,trivial,ar .auto s⟩
   rw[Form.below,if_neg (by simp[h5]),if_neg h8]
theorem HS{W:World}{A:aa}{v:bN}(hp:fp W [A] v){op:Int}:Fn Tryz.prog W 154 [.agg (eH v).toArray,.int .i64 op] [A] Unit (fun _=>.agg (ew (aR v.p op)).toArray) (fun _=>True) (fun _=>[A]):=by
 refine Fn.intro (N:=73) func154 rfl ntmps154 rfl fun F=>?_
 haveI hI1:∀ (H:List aa) [bX H A],aI W H v.fv cn 1 v.fs:=fun H h=>⟨hp.fs.at h.has⟩
 haveI hI2:∀ (H:List aa) [bX H A],aI W H v.sv aL 1 v.aU:=fun H h=>⟨hp.aU.at h.has⟩
 haveI hI3:∀ (H:List aa) [bX H A],aI W H v.pv aL 1 v.aG:=fun H h=>⟨hp.aG.at h.has⟩
 show ax _ _ _ _ _ _ [A,F]
 refine J 2 ?_
 refine .aw rfl (af.box rfl rfl rfl) ?_
 rintro _ _ ⟨b2,rfl,rfl⟩
 refine .aw rfl (af.alloc rfl zeroValue249 rfl) ?_
 rintro _ _ ⟨b4,rfl,rfl⟩
 refine JD 15 (fun h6=>?_) fun h6=>?_
 ·refine J 2 ?_
  refine .p (.gH (fun v1 v2=>[v1,(.bool false),(.int .i64 0),v2]) rfl rfl (by kernel_rfl)) ?_
  refine J 6 ?_
  refine .fw rfl rfl isAgg249 (by exact sizeOf249) Cells.a fun w s=>⟨(),?_,trivial,ar .auto s⟩
  simp[aR,ew, *]
 ·refine JD 7 (fun h9=>?_) fun h9=>?_
  ·refine J 2 ?_
   first | refine ax.dN rfl (fun _=>?_) (fun hc=>absurd h9 hc) | refine ax.cond rfl (fun _=>?_) (fun hc=>by rw[h9] at hc;cases hc)
   refine J 2 ?_
   refine .p (.gH (fun v1 v2=>[v1,(.bool false),v2,(.bool false)]) rfl rfl (by kernel_rfl)) ?_
   refine J 6 ?_
   refine .fw rfl rfl isAgg249 (by exact sizeOf249) Cells.a fun w s=>⟨(),?_,trivial,ar .auto s⟩
   simp[aR,ew, *]
  ·refine JD 6 (fun h9=>?_) fun h9=>?_
   ·refine J 2 ?_
    first | refine ax.dN rfl (fun _=>?_) (fun hc=>absurd h9 hc) | refine ax.cond rfl (fun _=>?_) (fun hc=>by rw[h9] at hc;cases hc)
    refine J 2 ?_
    refine .p (.gH (fun v1 v2=>[v1,(.bool false),v2,(.bool false)]) rfl rfl (by kernel_rfl)) ?_
    refine J 6 ?_
    refine .fw rfl rfl isAgg249 (by exact sizeOf249) Cells.a fun w s=>⟨(),?_,trivial,ar .auto s⟩
    simp[aR,ew, *]
   ·refine JD 6 (fun h9=>?_) fun h9=>?_
    ·refine J 2 ?_
     first | refine ax.dN rfl (fun _=>?_) (fun hc=>absurd h9 hc) | refine ax.cond rfl (fun _=>?_) (fun hc=>by rw[h9] at hc;cases hc)
     refine J 2 ?_
     refine .p (.gH (fun v1 v2=>[v1,(.bool false),v2,(.bool false)]) rfl rfl (by kernel_rfl)) ?_
     refine J 6 ?_
     refine .fw rfl rfl isAgg249 (by exact sizeOf249) Cells.a fun w s=>⟨(),?_,trivial,ar .auto s⟩
     simp[aR,ew, *]
    ·refine JD 6 (fun h9=>?_) fun h9=>?_
     ·refine J 2 ?_
      first | refine ax.dN rfl (fun _=>?_) (fun hc=>absurd h9 hc) | refine ax.cond rfl (fun _=>?_) (fun hc=>by rw[h9] at hc;cases hc)
      refine J 2 ?_
      refine .p (.gH (fun v1 v2=>[v1,(.bool false),v2,(.bool false)]) rfl rfl (by kernel_rfl)) ?_
      refine J 6 ?_
      refine .fw rfl rfl isAgg249 (by exact sizeOf249) Cells.a fun w s=>⟨(),?_,trivial,ar .auto s⟩
      simp[aR,ew, *]
     ·refine JD 6 (fun h9=>?_) fun h9=>?_
      ·refine J 2 ?_
       first | refine ax.dN rfl (fun _=>?_) (fun hc=>absurd h9 hc) | refine ax.cond rfl (fun _=>?_) (fun hc=>by rw[h9] at hc;cases hc)
       refine J 2 ?_
       refine .p (.gH (fun v1 v2=>[v1,(.bool false),v2,(.bool false)]) rfl rfl (by kernel_rfl)) ?_
       refine J 6 ?_
       refine .fw rfl rfl isAgg249 (by exact sizeOf249) Cells.a fun w s=>⟨(),?_,trivial,ar .auto s⟩
       simp[aR,ew, *]
      ·refine JD 6 (fun h9=>?_) fun h9=>?_
       ·refine J 2 ?_
        first | refine ax.dN rfl (fun _=>?_) (fun hc=>absurd h9 hc) | refine ax.cond rfl (fun _=>?_) (fun hc=>by rw[h9] at hc;cases hc)
        refine J 2 ?_
        refine .p (.gH (fun v1 v2=>[v1,(.bool false),v2,(.bool false)]) rfl rfl (by kernel_rfl)) ?_
        refine J 6 ?_
        refine .fw rfl rfl isAgg249 (by exact sizeOf249) Cells.a fun w s=>⟨(),?_,trivial,ar .auto s⟩
        simp[aR,ew, *]
       ·refine JD 6 (fun h9=>?_) fun h9=>?_
        ·refine J 2 ?_
         first | refine ax.dN rfl (fun _=>?_) (fun hc=>absurd h9 hc) | refine ax.cond rfl (fun _=>?_) (fun hc=>by rw[h9] at hc;cases hc)
         refine J 2 ?_
         refine .p (.gH (fun v1 v2=>[v1,(.bool false),v2,(.bool false)]) rfl rfl (by kernel_rfl)) ?_
         refine J 6 ?_
         refine .fw rfl rfl isAgg249 (by exact sizeOf249) Cells.a fun w s=>⟨(),?_,trivial,ar .auto s⟩
         simp[aR,ew, *]
        ·refine JD 5 (fun h9=>?_) fun h9=>?_
         ·refine J 2 ?_
          refine .p (.gH (fun v1 v2=>[v1,(.bool false),v2,(.bool false)]) rfl rfl (by kernel_rfl)) ?_
          refine J 6 ?_
          refine .fw rfl rfl isAgg249 (by exact sizeOf249) Cells.a fun w s=>⟨(),?_,trivial,ar .auto s⟩
          simp[aR,ew, *]
         ·refine JD 6 (fun h19=>?_) fun h19=>?_
          ·refine J 2 ?_
           refine .p (.jt (fun v1=>[(.int .i64 0),(.bool false),v1,(.bool false)]) rfl (by kernel_rfl)) ?_
           refine J 6 ?_
           refine .fw rfl rfl isAgg249 (by exact sizeOf249) Cells.a fun w s=>⟨(),?_,trivial,ar .auto s⟩
           simp[aR,ew, *]
          ·refine JD 6 (fun h22=>?_) fun h22=>?_
           ·refine J 2 ?_
            refine .p (.gH (fun v1 v2=>[v1,(.bool false),v2,(.bool false)]) rfl rfl (by kernel_rfl)) ?_
            refine J 6 ?_
            refine .fw rfl rfl isAgg249 (by exact sizeOf249) Cells.a fun w s=>⟨(),?_,trivial,ar .auto s⟩
            simp[aR,ew, *]
           ·refine JD 6 (fun h25=>?_) fun h25=>?_
            ·refine J 5 ?_
             refine .p (.gH (fun v1 v2=>[v1,(.bool false),v2,(.bool false)]) rfl rfl (by kernel_rfl)) ?_
             refine J 6 ?_
             refine .fw rfl rfl isAgg249 (by exact sizeOf249) Cells.a fun w s=>⟨(),?_,trivial,ar .auto s⟩
             simp[aR,ew,bN.p, *]
            ·refine JD 7 (fun h31=>?_) fun h31=>?_
             ·refine J 2 ?_
              first | refine ax.dN rfl (fun _=>?_) (fun hc=>absurd h31 hc) | refine ax.cond rfl (fun _=>?_) (fun hc=>by rw[h31] at hc;cases hc)
              refine J 2 ?_
              refine .p (.gH (fun v1 v2=>[v1,(.bool false),v2,(.bool false)]) rfl rfl (by kernel_rfl)) ?_
              refine J 6 ?_
              refine .fw rfl rfl isAgg249 (by exact sizeOf249) Cells.a fun w s=>⟨(),?_,trivial,ar .auto s⟩
              simp[aR,ew, *]
             ·refine JD 6 (fun h31=>?_) fun h31=>?_
              ·refine J 2 ?_
               first | refine ax.dN rfl (fun _=>?_) (fun hc=>absurd h31 hc) | refine ax.cond rfl (fun _=>?_) (fun hc=>by rw[h31] at hc;cases hc)
               refine J 2 ?_
               refine .p (.gH (fun v1 v2=>[v1,(.bool false),v2,(.bool false)]) rfl rfl (by kernel_rfl)) ?_
               refine J 6 ?_
               refine .fw rfl rfl isAgg249 (by exact sizeOf249) Cells.a fun w s=>⟨(),?_,trivial,ar .auto s⟩
               simp[aR,ew, *]
              ·refine JD 6 (fun h31=>?_) fun h31=>?_
               ·refine J 2 ?_
                first | refine ax.dN rfl (fun _=>?_) (fun hc=>absurd h31 hc) | refine ax.cond rfl (fun _=>?_) (fun hc=>by rw[h31] at hc;cases hc)
                refine J 2 ?_
                refine .p (.gH (fun v1 v2=>[v1,(.bool false),v2,(.bool false)]) rfl rfl (by kernel_rfl)) ?_
                refine J 6 ?_
                refine .fw rfl rfl isAgg249 (by exact sizeOf249) Cells.a fun w s=>⟨(),?_,trivial,ar .auto s⟩
                simp[aR,ew, *]
               ·refine JD 6 (fun h31=>?_) fun h31=>?_
                ·refine J 2 ?_
                 first | refine ax.dN rfl (fun _=>?_) (fun hc=>absurd h31 hc) | refine ax.cond rfl (fun _=>?_) (fun hc=>by rw[h31] at hc;cases hc)
                 refine J 2 ?_
                 refine .p (.gH (fun v1 v2=>[v1,(.bool false),v2,(.bool false)]) rfl rfl (by kernel_rfl)) ?_
                 refine J 6 ?_
                 refine .fw rfl rfl isAgg249 (by exact sizeOf249) Cells.a fun w s=>⟨(),?_,trivial,ar .auto s⟩
                 simp[aR,ew, *]
                ·refine JD 5 (fun h31=>?_) fun h31=>?_
                 ·refine J 2 ?_
                  refine .p (.gH (fun v1 v2=>[v1,(.bool false),v2,(.bool false)]) rfl rfl (by kernel_rfl)) ?_
                  refine J 6 ?_
                  refine .fw rfl rfl isAgg249 (by exact sizeOf249) Cells.a fun w s=>⟨(),?_,trivial,ar .auto s⟩
                  simp[aR,ew, *]
                 ·refine JD 6 (fun h38=>?_) fun h38=>?_
                  ·refine J 2 ?_
                   refine .p (.jt (fun v1=>[(.int .i64 0),(.bool false),v1,(.bool false)]) rfl (by kernel_rfl)) ?_
                   refine J 6 ?_
                   refine .fw rfl rfl isAgg249 (by exact sizeOf249) Cells.a fun w s=>⟨(),?_,trivial,ar .auto s⟩
                   simp[aR,ew, *]
                  ·refine JD 7 (fun h41=>?_) fun h41=>?_
                   ·refine J 2 ?_
                    first | refine ax.dN rfl (fun _=>?_) (fun hc=>absurd h41 hc) | refine ax.cond rfl (fun _=>?_) (fun hc=>by rw[h41] at hc;cases hc)
                    refine J 4 ?_
                    refine .p (.jt (fun v1=>[(.int .i64 0),(.bool false),v1,(.bool false)]) rfl (by kernel_rfl)) ?_
                    refine J 6 ?_
                    refine .fw rfl rfl isAgg249 (by exact sizeOf249) Cells.a fun w s=>⟨(),?_,trivial,ar .auto s⟩
                    simp[aR,ew,bN.p, *]
                   ·refine JD 5 (fun h41=>?_) fun h41=>?_
                    ·refine J 4 ?_
                     refine .p (.jt (fun v1=>[(.int .i64 0),(.bool false),v1,(.bool false)]) rfl (by kernel_rfl)) ?_
                     refine J 6 ?_
                     refine .fw rfl rfl isAgg249 (by exact sizeOf249) Cells.a fun w s=>⟨(),?_,trivial,ar .auto s⟩
                     simp[aR,ew,bN.p, *]
                    ·refine JD 6 (fun h47=>?_) fun h47=>?_
                     ·refine J 4 ?_
                      refine .p (.gH (fun v1 v2=>[(.int .i64 0),v2,v1,(.bool false)]) rfl rfl (by kernel_rfl)) ?_
                      refine J 6 ?_
                      refine .fw rfl rfl isAgg249 (by exact sizeOf249) Cells.a fun w s=>⟨(),?_,trivial,ar .auto s⟩
                      simp[aR,ew,bN.p, *]
                     ·refine JD 7 (fun h52=>?_) fun h52=>?_
                      ·refine J 2 ?_
                       first | refine ax.dN rfl (fun _=>?_) (fun hc=>absurd h52 hc) | refine ax.cond rfl (fun _=>?_) (fun hc=>by rw[h52] at hc;cases hc)
                       refine J 4 ?_
                       refine .p (.jt (fun v1=>[(.int .i64 0),(.bool false),v1,(.bool false)]) rfl (by kernel_rfl)) ?_
                       refine J 6 ?_
                       refine .fw rfl rfl isAgg249 (by exact sizeOf249) Cells.a fun w s=>⟨(),?_,trivial,ar .auto s⟩
                       simp[aR,ew,bN.p, *]
                      ·refine JD 5 (fun h52=>?_) fun h52=>?_
                       ·refine J 4 ?_
                        refine .p (.jt (fun v1=>[(.int .i64 0),(.bool false),v1,(.bool false)]) rfl (by kernel_rfl)) ?_
                        refine J 6 ?_
                        refine .fw rfl rfl isAgg249 (by exact sizeOf249) Cells.a fun w s=>⟨(),?_,trivial,ar .auto s⟩
                        simp[aR,ew,bN.p, *]
                       ·refine JD 7 (fun h58=>?_) fun h58=>?_
                        ·refine J 2 ?_
                         first | refine ax.dN rfl (fun _=>?_) (fun hc=>absurd h58 hc) | refine ax.cond rfl (fun _=>?_) (fun hc=>by rw[h58] at hc;cases hc)
                         refine J 5 ?_
                         refine .p (.jt (fun v1=>[(.int .i64 0),(.bool false),v1,(.bool false)]) rfl (by kernel_rfl)) ?_
                         refine J 6 ?_
                         refine .fw rfl rfl isAgg249 (by exact sizeOf249) Cells.a fun w s=>⟨(),?_,trivial,ar .auto s⟩
                         simp[aR,ew,bN.p, *]
                        ·refine JD 5 (fun h58=>?_) fun h58=>?_
                         ·refine J 5 ?_
                          refine .p (.jt (fun v1=>[(.int .i64 0),(.bool false),v1,(.bool false)]) rfl (by kernel_rfl)) ?_
                          refine J 6 ?_
                          refine .fw rfl rfl isAgg249 (by exact sizeOf249) Cells.a fun w s=>⟨(),?_,trivial,ar .auto s⟩
                          simp[aR,ew,bN.p, *]
                         ·refine JD 7 (fun h65=>?_) fun h65=>?_
                          ·refine J 2 ?_
                           first | refine ax.dN rfl (fun _=>?_) (fun hc=>absurd h65 hc) | refine ax.cond rfl (fun _=>?_) (fun hc=>by rw[h65] at hc;cases hc)
                           refine J 5 ?_
                           refine .p (.gH (fun v1 v2=>[v1,(.bool false),v2,(.bool false)]) rfl rfl (by kernel_rfl)) ?_
                           refine J 6 ?_
                           refine .fw rfl rfl isAgg249 (by exact sizeOf249) Cells.a fun w s=>⟨(),?_,trivial,ar .auto s⟩
                           simp[aR,ew,bN.p, *]
                          ·refine JD 5 (fun h65=>?_) fun h65=>?_
                           ·refine J 5 ?_
                            refine .p (.gH (fun v1 v2=>[v1,(.bool false),v2,(.bool false)]) rfl rfl (by kernel_rfl)) ?_
                            refine J 6 ?_
                            refine .fw rfl rfl isAgg249 (by exact sizeOf249) Cells.a fun w s=>⟨(),?_,trivial,ar .auto s⟩
                            simp[aR,ew,bN.p, *]
                           ·refine J 5 ?_
                            refine .p (.gH (fun v1 v2=>[v1,(.bool false),v2,(.bool false)]) rfl rfl (by kernel_rfl)) ?_
                            refine J 4 ?_
                            refine .fw rfl rfl isAgg249 (by exact sizeOf249) Cells.a fun w s=>⟨(),?_,trivial,ar .auto s⟩
                            simp[aR,ew, *]
theorem Ae{W:World}{A:aa}{v:bN}(hp:fp W [A] v){i:Ins}(hb:(aR v.p i.op).n≤9223372036854775807):Fn Tryz.prog W 106 [.agg (eH v).toArray,.agg (dI i).toArray] [A] Unit (fun _=>.bool (ez v.p i)) (fun _=>True) (fun _=>[A]):=by
 refine Fn.intro (N:=56) func106 rfl ntmps106 rfl fun F=>?_
 haveI hI1:∀ (H:List aa) [bX H A],aI W H v.fv cn 1 v.fs:=fun H h=>⟨hp.fs.at h.has⟩
 haveI hI2:∀ (H:List aa) [bX H A],aI W H v.sv aL 1 v.aU:=fun H h=>⟨hp.aU.at h.has⟩
 haveI hI3:∀ (H:List aa) [bX H A],aI W H v.pv aL 1 v.aG:=fun H h=>⟨hp.aG.at h.has⟩
 show ax _ _ _ _ _ _ [A,F]
 refine J 2 ?_
 refine .aw rfl (af.box rfl rfl rfl) ?_
 rintro _ _ ⟨b2,rfl,rfl⟩
 refine .aw rfl (af.box rfl rfl rfl) ?_
 rintro _ _ ⟨b3,rfl,rfl⟩
 refine J 8 ?_
 refine .c call72 rfl nB fun _ _=>?_
 refine JD 3 (fun h10=>?_) fun h10=>?_
 ·refine J 7 ?_
  refine .aC rfl rfl fun w s=>⟨(),?_,trivial,ar .auto s⟩
  rw[ez,if_pos h10]
 ·refine J 7 ?_
  refine .c call154 rfl (HS hp) fun _ _=>?_
  refine .aw rfl (af.alloc rfl zeroValue249 rfl) ?_
  rintro _ _ ⟨b5,rfl,rfl⟩
  refine J 10 ?_
  refine .c call155 rfl mo fun _ _=>?_
  refine JD 10 (fun h22=>?_) fun h22=>?_
  ·refine J 5 ?_
   apply aQ.fZ 6 32 26 [26,27,28,29,30,31,32] rfl
   ·intro h26
    exact JS 7
   ·intro h26
    exact JS 7
   refine J 10 ?_
   refine .c call155 rfl mo fun _ _=>?_
   refine J 1 ?_
   apply aQ.gI 7 46 39 [39,40,41,42,43,44,45,46] rfl
   ·intro h39
    refine J 5 ?_
    refine .cg call155 rfl mo fun _ _=>?_
    exact JS 2
   ·intro h39
    exact JS 8
   refine J 1 ?_
   apply aQ.gI 2 49 47 [47,48,49] rfl
   ·intro h47
    exact JS 3
   ·intro h47
    exact JS 3
   refine J 1 ?_
   apply aQ.gI 5 55 50 [50,51,52,53,54,55] rfl
   ·intro h50
    refine J 3 ?_
    refine .cg call156 rfl (tc hb) fun _ _=>?_
    exact JS 2
   ·intro h50
    exact JS 6
   refine J 4 ?_
   refine .aC rfl rfl fun w s=>⟨(),?_,trivial,ar .auto s⟩
   refine Gz ?_;rw[ez,if_neg h10];simp only[h22,if_true];try rfl
  ·refine J 9 ?_
   refine .c call155 rfl mo fun _ _=>?_
   refine J 1 ?_
   apply aQ.gI 7 46 39 [39,40,41,42,43,44,45,46] rfl
   ·intro h39
    refine J 5 ?_
    refine .cg call155 rfl mo fun _ _=>?_
    exact JS 2
   ·intro h39
    exact JS 8
   refine J 1 ?_
   apply aQ.gI 2 49 47 [47,48,49] rfl
   ·intro h47
    exact JS 3
   ·intro h47
    exact JS 3
   refine J 1 ?_
   apply aQ.gI 5 55 50 [50,51,52,53,54,55] rfl
   ·intro h50
    refine J 3 ?_
    refine .cg call156 rfl (tc hb) fun _ _=>?_
    exact JS 2
   ·intro h50
    exact JS 6
   refine J 4 ?_
   refine .aC rfl rfl fun w s=>⟨(),?_,trivial,ar .auto s⟩
   refine Gz ?_;rw[ez,if_neg h10];simp only[h22,if_false,Bool.false_eq_true];try rfl
theorem CZ{W:World}{A:aa}{v:bN}(hp:fp W [A] v)(hl:v.fs.length≤1000000000∧v.aU.length≤1000000000∧v.aG.length≤1000000000):Fn Tryz.prog W 105 [.agg (eH v).toArray] [A] Unit (fun _=>.bool (eg v.p)) (fun _=>True) (fun _=>[A]):=by
 refine Fn.intro (N:=102) func105 rfl ntmps105 rfl fun F=>?_
 haveI hI1:∀ (H:List aa) [bX H A],aI W H v.fv cn 1 v.fs:=fun H h=>⟨hp.fs.at h.has⟩
 haveI hI2:∀ (H:List aa) [bX H A],aI W H v.sv aL 1 v.aU:=fun H h=>⟨hp.aU.at h.has⟩
 haveI hI3:∀ (H:List aa) [bX H A],aI W H v.pv aL 1 v.aG:=fun H h=>⟨hp.aG.at h.has⟩
 show ax _ _ _ _ _ _ [A,F]
 refine J 2 ?_
 refine .aw rfl (af.box rfl rfl rfl) ?_
 rintro _ _ ⟨b1,rfl,rfl⟩
 refine J 10 ?_
 apply aQ.fZ 5 19 14 [14,15,16,17,18,19] rfl
 ·intro h14
  exact JS 6
 ·intro h14
  exact JS 6
 refine J 1 ?_
 apply aQ.gI 4 24 20 [20,21,22,23,24] rfl
 ·intro h20
  refine J 2 ?_
  refine .cg call153 rfl fI fun _ _=>?_
  exact JS 2
 ·intro h20
  exact JS 5
 refine J 1 ?_
 apply aQ.gI 4 29 25 [25,26,27,28,29] rfl
 ·intro h25
  refine J 2 ?_
  refine .cg call153 rfl fI fun _ _=>?_
  exact JS 2
 ·intro h25
  exact JS 5
 refine J 1 ?_
 apply aQ.gI 4 34 30 [30,31,32,33,34] rfl
 ·intro h30
  refine J 2 ?_
  refine .cg call153 rfl fI fun _ _=>?_
  exact JS 2
 ·intro h30
  exact JS 5
 refine J 1 ?_
 apply aQ.gI 4 39 35 [35,36,37,38,39] rfl
 ·intro h35
  refine J 2 ?_
  refine .cg call153 rfl fI fun _ _=>?_
  exact JS 2
 ·intro h35
  exact JS 5
 refine J 1 ?_
 apply aQ.gI 4 44 40 [40,41,42,43,44] rfl
 ·intro h40
  refine J 2 ?_
  refine .cg call153 rfl fI fun _ _=>?_
  exact JS 2
 ·intro h40
  exact JS 5
 refine J 1 ?_
 apply aQ.gI 5 50 45 [45,46,47,48,49,50] rfl
 ·intro h45
  exact JS 6
 ·intro h45
  exact JS 6
 refine J 1 ?_
 apply aQ.gI 5 56 51 [51,52,53,54,55,56] rfl
 ·intro h51
  exact JS 6
 ·intro h51
  exact JS 6
 refine J 13 ?_
 refine .cM (X:=Nat×Bool) [3,5,60,61,62,63,64,65,66,67,68,69,70] (fun z=>v.fs.length-z.1) (fun z=>z.1≤v.fs.length∧z.2=m7 v z.1) (fun z=>[(60,some (.int .i64 (z.1:Int))),(3,some (.bool z.2))]) (fun z=>[arr b1 0 (eH v),A,F]) (0,vF v) ?_ ?_ ?_ ?_
 ·exact⟨Nat.zero_le _,by simp[m7]⟩
 ·exact⟨rfl,rfl,trivial⟩
 ·exact fun w s=>aK.kept .auto w s
 rintro⟨k,y⟩ ⟨hk,hy⟩
 simp only at hk hy
 refine JD 6 (fun h61=>?_) fun h61=>?_
 ·refine J 6 ?_
  obtain⟨x,hx⟩:=ay (show k<v.fs.length by omega)
  have hi:=hp.ins x (List.mem_of_getElem? hx)
  haveI hI4:∀ (H:List aa) [bX H A],aI W H x.1 dI 5 x.2:=fun H h=>⟨hi.at h.has⟩
  refine J 8 ?_
  apply aQ.gI 4 69 65 [65,66,67,68,69] rfl
  ·intro h65
   exact JS 5
  ·intro h65
   exact JS 5
  refine J 8 ?_
  refine .bf (k+1,(y && decide ((x.2.length:Int)≤256))) .auto rfl ?_ ?_ ?_ ?_
  ·show v.fs.length-(k+1)<v.fs.length-k;omega
  ·refine⟨by show k+1≤_;omega,?_⟩
   rw[m7,gk hx,hy,m7]
   simp only[Bool.and_assoc]
  ·exact⟨rfl,rfl,trivial⟩
  ·exact fun w s=>aK.kept .auto w s
 ·refine J 15 ?_
  obtain rfl:k=v.fs.length:=by omega
  refine .cM (X:=Nat×Bool) [3,7,74,75,76,77,78,79,80,81,82,83] (fun z=>v.aU.length-z.1) (fun z=>z.1≤v.aU.length∧z.2=m8 v z.1) (fun z=>[(74,some (.int .i64 (z.1:Int))),(3,some (.bool z.2))]) (fun z=>[arr b1 0 (eH v),A,F]) (0,y) ?_ ?_ ?_ ?_
  ·exact⟨Nat.zero_le _,by rw[m8,hy];simp⟩
  ·exact⟨rfl,rfl,trivial⟩
  ·exact fun w s=>aK.kept .auto w s
  rintro⟨k,y⟩ ⟨hk,hy⟩
  simp only at hk hy
  refine JD 6 (fun h75=>?_) fun h75=>?_
  ·refine J 6 ?_
   obtain⟨x,hx⟩:=ay (show k<v.aU.length by omega)
   refine J 8 ?_
   apply aQ.gI 3 82 79 [79,80,81,82] rfl
   ·intro h79
    refine J 1 ?_
    refine .cg call153 rfl fI fun _ _=>?_
    exact JS 2
   ·intro h79
    exact JS 4
   refine J 8 ?_
   refine .bf (k+1,(y && within x 1048576)) .auto rfl ?_ ?_ ?_ ?_
   ·show v.aU.length-(k+1)<v.aU.length-k;omega
   ·refine⟨by show k+1≤_;omega,?_⟩
    rw[m8,gk hx,hy,m8]
    simp only[Bool.and_assoc]
   ·exact⟨rfl,rfl,trivial⟩
   ·exact fun w s=>aK.kept .auto w s
  ·refine J 15 ?_
   obtain rfl:k=v.aU.length:=by omega
   refine .cM (X:=Nat×Bool) [3,9,87,88,89,90,91,92,93,94,95,96,97,98,99,100] (fun z=>v.aG.length-z.1) (fun z=>z.1≤v.aG.length∧z.2=m9 v z.1) (fun z=>[(87,some (.int .i64 (z.1:Int))),(3,some (.bool z.2))]) (fun z=>[arr b1 0 (eH v),A,F]) (0,y) ?_ ?_ ?_ ?_
   ·exact⟨Nat.zero_le _,by rw[m9,hy];simp⟩
   ·exact⟨rfl,rfl,trivial⟩
   ·exact fun w s=>aK.kept .auto w s
   rintro⟨k,y⟩ ⟨hk,hy⟩
   simp only at hk hy
   refine JD 6 (fun h88=>?_) fun h88=>?_
   ·refine J 6 ?_
    obtain⟨x,hx⟩:=ay (show k<v.aG.length by omega)
    refine J 8 ?_
    apply aQ.gI 3 95 92 [92,93,94,95] rfl
    ·intro h92
     exact JS 4
    ·intro h92
     exact JS 4
    refine J 1 ?_
    apply aQ.gI 3 99 96 [96,97,98,99] rfl
    ·intro h96
     refine J 1 ?_
     refine .cg call153 rfl fI fun _ _=>?_
     exact JS 2
    ·intro h96
     exact JS 4
    refine J 8 ?_
    refine .bf (k+1,((y && decide (0<x)) && within x 8)) .auto rfl ?_ ?_ ?_ ?_
    ·show v.aG.length-(k+1)<v.aG.length-k;omega
    ·refine⟨by show k+1≤_;omega,?_⟩
     rw[m9,gk hx,hy,m9]
     simp only[Bool.and_assoc]
    ·exact⟨rfl,rfl,trivial⟩
    ·exact fun w s=>aK.kept .auto w s
   ·refine J 12 ?_
    obtain rfl:k=v.aG.length:=by omega
    refine .aC rfl rfl fun w s=>⟨(),?_,trivial,ar .auto s⟩
    rw[hy,xv]
theorem Af{W:World}{A:aa}{v:bN}(hp:fp W [A] v)(hl:v.fs.length≤1000000000∧v.aU.length≤1000000000∧v.aG.length≤1000000000):Fn Tryz.prog W 57 [.agg (eH v).toArray] [A] Unit (fun _=>.int .i64 (dD v.p)) (fun _=>True) (fun _=>[A]):=by
 refine Fn.intro (N:=29) func57 rfl ntmps57 rfl fun F=>?_
 haveI hI1:∀ (H:List aa) [bX H A],aI W H v.fv cn 1 v.fs:=fun H h=>⟨hp.fs.at h.has⟩
 haveI hI2:∀ (H:List aa) [bX H A],aI W H v.sv aL 1 v.aU:=fun H h=>⟨hp.aU.at h.has⟩
 haveI hI3:∀ (H:List aa) [bX H A],aI W H v.pv aL 1 v.aG:=fun H h=>⟨hp.aG.at h.has⟩
 show ax _ _ _ _ _ _ [A,F]
 refine J 2 ?_
 refine .aw rfl (af.box rfl rfl rfl) ?_
 rintro _ _ ⟨b1,rfl,rfl⟩
 refine J 7 ?_
 refine .c call105 rfl (CZ hp hl) fun _ _=>?_
 refine JD 3 (fun h9=>?_) fun h9=>?_
 ·refine J 7 ?_
  rw[Bool.not_eq_true'] at h9
  refine .aC rfl rfl fun w s=>⟨(),?_,trivial,ar .auto s⟩
  refine ju ?_;unfold dD;rw[if_neg (by rw[h9];simp)]
 ·refine J 12 ?_
  rw[Bool.not_eq_false'] at h9
  refine .cM (X:=Nat) [2,4,6,13,14,15,16,17,18,19,20,21,22,23,24,25,26,27,28] (fun k=>v.fs.length-k) (fun k=>k≤v.fs.length∧(v.fs.take k).all (fun f:Value×List Ins=>f.2.all (ez v.p))=true) (fun k=>[(13,some (.int .i64 (k:Int)))]) (fun k=>[arr b1 0 (eH v),A,F]) 0 ?_ ?_ ?_ ?_
  ·exact⟨Nat.zero_le _,rfl⟩
  ·exact⟨rfl,trivial⟩
  ·exact fun w s=>aK.kept .auto w s
  rintro k ⟨hk,hs⟩
  refine JD 6 (fun h14=>?_) fun h14=>?_
  ·refine J 6 ?_
   obtain⟨x,hx⟩:=ay (show k<v.fs.length by omega)
   have hi:=hp.ins x (List.mem_of_getElem? hx)
   haveI hI4:∀ (H:List aa) [bX H A],aI W H x.1 dI 5 x.2:=fun H h=>⟨hi.at h.has⟩
   have hx256:x.2.length≤256:=vG h9 (List.mem_of_getElem? hx)
   refine J 13 ?_
   refine .cM (X:=Nat) [2,6,19,20,21,22,23,24,25,26,27] (fun j=>x.2.length-j) (fun j=>j≤x.2.length∧(x.2.take j).all (ez v.p)=true) (fun j=>[(19,some (.int .i64 (j:Int)))]) (fun j=>[arr b1 0 (eH v),A,F]) 0 ?_ ?_ ?_ ?_
   ·exact⟨Nat.zero_le _,rfl⟩
   ·exact⟨rfl,trivial⟩
   ·exact fun w s=>aK.kept .auto w s
   rintro j ⟨hj0,hsj⟩
   refine JD 6 (fun h20=>?_) fun h20=>?_
   ·refine J 6 ?_
    obtain⟨i,hj⟩:=ay (show j<x.2.length by omega)
    refine J 2 ?_
    refine .aw rfl (af.alloc rfl zeroValue131 rfl) ?_
    rintro _ _ ⟨b6,rfl,rfl⟩
    refine J 7 ?_
    refine .c call106 rfl (Ae hp (BZ h9 _)) fun _ _=>?_
    refine JD 3 (fun h26=>?_) fun h26=>?_
    ·refine J 15 ?_
     rw[Bool.not_eq_true'] at h26
     refine .aC rfl rfl fun w s=>⟨(),?_,trivial,ar .auto s⟩
     exact ju (tS h9 hx hj h26).symm
    ·refine J 7 ?_
     rw[Bool.not_eq_false'] at h26
     refine .bf (j+1) .auto rfl ?_ ?_ ?_ ?_
     ·first | omega | (dsimp only;omega)
     ·exact⟨by omega,by rw[gk hj,hsj,h26];rfl⟩
     ·exact⟨rfl,trivial⟩
     ·exact fun w s=>aK.kept .auto w s
   ·refine J 10 ?_
    obtain rfl:j=x.2.length:=by omega
    rw[List.take_length] at hsj
    refine .bf (k+1) .auto rfl ?_ ?_ ?_ ?_
    ·first | omega | (dsimp only;omega)
    ·exact⟨by omega,by rw[gk hx,hs,hsj];rfl⟩
    ·exact⟨rfl,trivial⟩
    ·exact fun w s=>aK.kept .auto w s
  ·refine J 11 ?_
   obtain rfl:k=v.fs.length:=by omega
   rw[List.take_length] at hs
   refine .aC rfl rfl fun w s=>⟨(),?_,trivial,ar .auto s⟩
   exact ju (xw h9 hs).symm
end Go.SLYtefdijgllbkmfaaGreat
namespace Go.SLYtefdijgllbkmfaaGreat
open Go Go.RowKit Go.Proofs Go.Proofs.Tryz
attribute [local irreducible] ax aQ bu cj bQ Y
theorem nC{W:World}{n m:Int}:Fn Tryz.prog W 107 [.int .i64 n,.int .i64 m] [] Unit (fun _=>.int .i64 (bb n m)) (fun _=>True) (fun _=>[]):=by
 refine Fn.intro (N:=9) func107 rfl ntmps107 rfl fun F=>?_
 show ax _ _ _ _ _ _ [F]
 refine J 8 ?_
 refine .p (.AM rfl rfl) ?_
 refine J 1 ?_
 refine .p (.qv rfl rfl) ?_
 exact JR 4 ()
theorem FP{W:World}{n:Int}:Fn Tryz.prog W 58 [.int .i64 n] [] Nat (fun b=>ptr b) (fun _=>True) (fun b=>[lC b (List.replicate (bb n 1024).toNat (false,0))]):=by
 refine Fn.intro (N:=9) func58 rfl ntmps58 rfl fun F=>?_
 show ax _ _ _ _ _ _ [F]
 refine J 8 ?_
 refine .p (.AM rfl rfl) ?_
 refine .p (.qv rfl rfl) ?_
 have hc:(bb n 1024).toNat≤1024:=by unfold bb;omega
 refine .aw rfl (af.IY (enc:=Gw) (k:=2) (false,0) (bb n 1024).toNat rfl underlying188 typeInfo255 rfl rfl rfl rfl (by decide) (by decide) rfl rfl (by unfold bb;omega) (by unfold bb;omega) (by omega)) ?_
 rintro _ _ ⟨b6,rfl,rfl⟩
 refine .p (.jt (fun v1=>[v1]) rfl (by kernel_rfl)) ?_
 refine .aw rfl (af.box rfl rfl rfl) ?_
 rintro _ _ ⟨b8,rfl,rfl⟩
 exact JR 4 b8
theorem FQ{W:World}{n:Int}:Fn Tryz.prog W 60 [.int .i64 n] [] Nat (fun b=>ptr b) (fun _=>True) (fun b=>[nS b (jC.new n)]):=by
 refine Fn.intro (N:=9) func60 rfl ntmps60 rfl fun F=>?_
 show ax _ _ _ _ _ _ [F]
 refine J 8 ?_
 refine .p (.AM rfl rfl) ?_
 refine .p (.qv rfl rfl) ?_
 have hc:(bb n 64).toNat≤64:=by unfold bb;omega
 refine .aw rfl (af.IY (enc:=bF) (k:=1) (0:Int) (bb n 64).toNat rfl underlying55 typeInfo38 rfl rfl rfl rfl (by decide) (by decide) rfl rfl (by unfold bb;omega) (by unfold bb;omega) (by omega)) ?_
 rintro _ _ ⟨b6,rfl,rfl⟩
 refine .p (.jt (fun v1=>[v1,(.slice none 0 0)]) rfl (by kernel_rfl)) ?_
 refine .aw rfl (af.box rfl rfl rfl) ?_
 rintro _ _ ⟨b8,rfl,rfl⟩
 exact JR 4 b8
theorem FR{W:World}{n:Int}:Fn Tryz.prog W 64 [.int .i64 n] [] Nat (fun b=>ptr b) (fun _=>True) (fun b=>[il b (Tub.new n)]):=by
 refine Fn.intro (N:=8) func64 rfl ntmps64 rfl fun F=>?_
 show ax _ _ _ _ _ _ [F]
 refine J 8 ?_
 refine .p (.AM rfl rfl) ?_
 refine .p (.qv rfl rfl) ?_
 refine .p (.jt (fun v1=>[v1,(.slice none 0 0),(.slice none 0 0),(.slice none 0 0)]) rfl (by kernel_rfl)) ?_
 refine .aw rfl (af.box rfl rfl rfl) ?_
 rintro _ _ ⟨b7,rfl,rfl⟩
 exact JR 4 b7
theorem C0{W:World}  : Fn Tryz.prog W 61 [] [] Nat (fun b=>ptr b) (fun _=>True) (fun b=>[m5 b j6.new]):=by
 refine Fn.intro (N:=4) func61 rfl ntmps61 rfl fun F=>?_
 show ax _ _ _ _ _ _ [F]
 refine J 7 ?_
 refine .aw rfl (af.makeMap rfl) ?_
 rintro _ _ ⟨m1,rfl,rfl⟩
 refine .p (.jt (fun v1=>[(.int .i64 0),v1]) rfl (by kernel_rfl)) ?_
 refine .aw rfl (af.box rfl rfl rfl) ?_
 rintro _ _ ⟨b3,rfl,rfl⟩
 refine J 4 ?_
 refine .to (A:=m4 m1 []) (Bs:=[iT m1 (.map #[] 0)]) .auto (fun h a=>⟨[],0,⟨rfl,List.nodup_nil,fun e he=>(by cases he),List.nodup_nil⟩,a⟩) ?_
 exact JR 0 b3
theorem qL{W:World}{o:Bool×Int}{n:Nat}(ho:0≤o.2∧o.2<2199023255552)(hn:n<65536):Fn Tryz.prog W 157 [.agg (Gw o).toArray,.int .i64 (n:Int)] [] Unit (fun _=>.int .u64 (dq o.2 n)) (fun _=>True) (fun _=>[]):=by
 refine Fn.intro (N:=12) func157 rfl ntmps157 rfl fun F=>?_
 show ax _ _ _ _ _ _ [F]
 refine J 2 ?_
 refine .aw rfl (af.box rfl rfl rfl) ?_
 rintro _ _ ⟨b2,rfl,rfl⟩
 refine J 7 ?_
 refine .p (.Lu rfl rfl (by omega)) ?_
 refine J 1 ?_
 refine .p (.gh underlying3 underlying38 rfl (by omega)) ?_
 refine .p (.Dv rfl rfl (by omega)) ?_
 refine .p (.Dv rfl rfl (by omega)) ?_
 exact JR 4 ()
theorem C1{W:World}{b:Nat}{l:List (Bool×Int)}(hl:iX l):Fn Tryz.prog W 108 [ptr b] [lC b l] Unit (fun _=>.tuple #[.int .i64 (eC l).1,.int .u64 (eC l).2.1,.int .i64 (eC l).2.2.1]) (fun _=>True) (fun _=>[lC b (eC l).2.2.2]):=by
 refine Fn.intro (N:=45) func108 rfl ntmps108 rfl fun F=>?_
 show ax _ _ _ _ _ _ [lC b l,F]
 refine .o1 (C:=lC b l) .auto rfl ?_
 rintro v -
 obtain⟨hl1,hl2⟩:=hl
 refine J 14 ?_
 refine .jY rfl ?_
 refine J 14 ?_
 refine .cM (X:=Nat) [2,3,4,5,6,14,15,16,17,18,19,20,21,22,23,24,25,26,27,28,29,30,31,32,33,34,35,36,37,38,39,40,41,42,43,44] (fun k=>l.length-k) (fun k=>k≤l.length∧slotFree? l 0=slotFree? (l.drop k) k) (fun k=>[(14,some (.int .i64 (k:Int)))]) (fun k=>[arr b 0 [v],sl Gw 2 v l,F]) 0 ?_ ?_ ?_ ?_
 ·exact⟨Nat.zero_le _,by simp⟩
 ·exact⟨rfl,trivial⟩
 ·exact fun w s=>aK.kept .auto w s
 rintro k ⟨hk,hn⟩
 refine JD 6 (fun h15=>?_) fun h15=>?_
 ·refine J 17 ?_
  obtain⟨o,hx⟩:=ay (show k<l.length by omega)
  have ho:=hl2 o (List.mem_of_getElem? hx)
  refine JD 13 (fun h27=>?_) fun h27=>?_
  ·refine J 2 ?_
   have hu:o.1=false:=by simpa using h27
   obtain⟨o1,o2⟩:=o
   have hu:o1=false:=hu
   subst hu
   have hx2:(l.set k (true,o2))[k]?=some (true,o2):=xr hx
   have hx3:((l.set k (true,o2)).set k (true,o2+1))[k]?=some (true,o2+1):=xr hx2
   refine J 3 ?_
   refine .aw rfl (af.gL (x':=(true,o2)) rfl rfl sizeOf4 rfl hx (by decide) rfl (by repeat (first | exact gG.here | apply gG.there))) ?_
   rintro _ _ ⟨rfl,rfl⟩
   refine J 7 ?_
   refine .p (.ld rfl (Cell.rd Rd.s ‹_› (by rfl))) ?_
   refine .p (.Dv rfl rfl (by simp only at ho;omega)) ?_
   refine J 2 ?_
   refine .aw rfl (af.AF (c:=1) (x':=(true,o2+1)) rfl rfl sizeOf38 rfl hx2 (by decide) rfl (by repeat (first | exact gG.here | apply gG.there))) ?_
   rintro _ _ ⟨rfl,rfl⟩
   refine J 9 ?_
   refine .c call157 rfl (qL (o:=(true,o2+1)) (n:=k) (by simp only at ho ⊢;omega) (by omega)) fun _ _=>?_
   refine J 11 ?_
   have e:eC l=((k:Int),dq (o2+1) k,0,(l.set k (true,o2)).set k (true,o2+1)):=by
    unfold eC;rw[hn,DZ hx rfl];simp only[List.getD_eq_getElem?_getD,hx,List.set_set];rfl
   rw[e]
   refine .lK rfl rfl rfl rfl fun w s=>⟨(),?_,trivial,ar .auto s⟩
   rfl
  ·refine J 7 ?_
   refine .bf (k+1) .auto rfl ?_ ?_ ?_ ?_
   ·first | omega | (dsimp only;omega)
   ·exact⟨by omega,hn.trans (B3 hx (by simpa using h27))⟩
   ·exact⟨rfl,trivial⟩
   ·exact fun w s=>aK.kept .auto w s
 ·refine J 13 ?_
  rw[show eC l=(0,0,2,l) from by unfold eC;rw[hn,D0 (by omega)]]
  refine .lK rfl rfl rfl rfl fun w s=>⟨(),?_,trivial,ar .auto s⟩
  rfl
theorem td{W:World}{b:Nat}{ps:List (Option Nat)}{s:Spc}{f arg:Int}(hT:iX s.table)(hl:s.thr.length=16)(hf:∀ n,slotFree? s.table 0=some n→s.thr[n]?=some none):Fn Tryz.prog W 65 [ptr b,.int .i64 f,.int .u64 arg] [dt b ps s] (List (Option Nat)) (fun _=>.tuple #[.int .i64 (s.begin f arg).1,.int .i64 (s.begin f arg).2.1]) (fun qs=>∃ p,qs=mu s.table ps p) (fun qs=>[dt b qs (s.begin f arg).2.2]):=by
 refine Fn.intro (N:=45) func65 rfl ntmps65 rfl fun F=>?_
 show ax _ _ _ _ _ _ [dt b ps s,F]
 refine .jq (C:=dt b ps s) .auto rfl ?_
 rintro fv sv pv bt vm bg vt bd bw vr -
 refine .fb (fun w s=>s.fact .auto iO) fun hs=>?_
 refine J 12 ?_
 refine .c call108 rfl (C1 hT) fun _ _=>?_
 refine JD 16 (fun h22=>?_) fun h22=>?_
 ·refine J 9 ?_
  obtain⟨hn,e⟩:=xz h22
  rw[e,iY hn]
  refine .eo rfl rfl rfl fun w s=>⟨ps,?_,⟨0,by unfold mu;rw[hn]⟩,ar .auto s⟩
  rfl
 ·refine J 4 ?_
  obtain⟨n,hn,e⟩:=xy (Decidable.of_not_not h22)
  have hfn:=hf n hn
  have hn16:n<16:=hl ▸ (List.getElem?_eq_some_iff.1 hfn).1
  rw[e,dX hn]
  refine J 1 ?_
  refine .p (.IX (fun v1 v2 v3=>[(.int .i64 0),(.int .i64 0),(.int .u64 0),(.int .u64 0),(.int .u64 0),(.int .u64 0),(.int .u64 0),(.int .u64 0),(.int .u64 0),(.int .u64 0),v1,(.int .i64 0),(.int .u64 0),(.bool false),v2,(.int .i64 0),v3,(.int .u64 0)]) rfl rfl rfl (by kernel_rfl)) ?_
  refine .aw rfl (af.box rfl rfl rfl) ?_
  rintro _ _ ⟨b26,rfl,rfl⟩
  refine J 20 ?_
  refine .p (.aD _ underlying39 sizeOf38 rfl rfl rfl (by first | omega | decide)) ?_
  refine J 10 ?_
  refine .p (.aD n underlying123 sizeOf122 rfl rfl rfl (by omega)) ?_
  refine .aw rfl (af.st sizeOf122 rfl rfl rfl (Nat.blt_eq.mpr (by show 9+n * 1<31;omega))) ?_
  rintro _ _ ⟨rfl,rfl⟩
  rw[Nat.mul_one]
  have e9:=@xx fv sv pv s.dK bt ps vm bg vt bd bw vr n (by omega) (hs.1.trans hl) (some b26)
  rw[show eJ (some b26)=Value.pointer (some ⟨b26,0,none⟩) from rfl] at e9
  rw[e9]
  refine J 10 ?_
  refine .to (A:=aE (ps.set n (some b26)) (s.thr.set n (some (mP f arg (dq ((s.table.getD n (false,0)).2+1) n))))) (Bs:=[arr b26 0 (bz (mP f arg (dq ((s.table.getD n (false,0)).2+1) n))),aE ps s.thr]) .auto (D2 hfn) ?_
  refine .eo rfl rfl rfl fun w s=>⟨ps.set n (some b26),?_,⟨b26,by unfold mu;rw[hn]⟩,ar .auto s⟩
  rfl
theorem Ag{W:World}{b:Nat}{ps:List (Option Nat)}{s:Spc}(hl:s.thr.length=16):Fn Tryz.prog W 19 [ptr b] [dt b ps s] Value (fun u=>u) (fun _=>True) (fun u=>[sl aL 1 u s.ready,dt b ps s]):=by
 refine Fn.intro (N:=31) func19 rfl ntmps19 rfl fun F=>?_
 show ax _ _ _ _ _ _ [dt b ps s,F]
 refine .jq (C:=dt b ps s) .auto rfl ?_
 rintro fv sv pv bt vm bg vt bd bw vr -
 refine .fb (fun w s=>s.fact .auto iO) fun hs=>?_
 refine J 12 ?_
 refine .jY rfl ?_
 refine J 13 ?_
 refine .p (.la rfl (Cells.jA (ds:=Ku ps) Cells.a rfl)) ?_
 refine J 4 ?_
 refine .cM (X:=Nat×Value×List Int) [3,4,5,12,13,14,15,16,17,18,19,20,21,22,23,24,25,26,27,28,29] (fun z=>16-z.1) (fun z=>z.1≤16∧z.2.2.length≤z.1∧s.ready=z.2.2++readyFrom (s.thr.drop z.1) z.1) (fun z=>[(12,some (.int .i64 (z.1:Int))),(3,some z.2.1)]) (fun z=>[sl aL 1 z.2.1 z.2.2,arr b 0 (fM fv sv pv s.dK bt ps vm bg vt bd bw vr),xo fv s.dK.funcs,lC bt s.table,aE ps s.thr,sl bF 1 vm s.mem,cX bg s.ag,nR vt s.bA,nS bd s.aO,m5 bw s.aA,sl dr 6 vr s.au,F]) (0,.slice none 0 0,[]) ?_ ?_ ?_ ?_
 ·exact⟨Nat.zero_le _,Nat.le_refl _,rfl⟩
 ·exact⟨rfl,rfl,trivial⟩
 ·exact fun w s=>aK.kept .auto w s
 rintro⟨k,u,xs⟩ ⟨hk,hxl,hn⟩
 simp only at hk hxl hn
 refine JD 6 (fun h13=>?_) fun h13=>?_
 ·refine J 7 ?_
  have hk16:k<16:=by omega
  refine .p (.index k underlying123 isAgg122 sizeOf122 rfl rfl rfl hk16 (by rw[List.getElem?_toArray];exact DY ps hk16)) ?_
  refine J 9 ?_
  apply aQ.gI 6 24 18 [18,19,20,21,22,23,24] rfl
  ·intro h18
   refine J 1 ?_
   have h18':((ps.getD k none).map fun b=>(⟨b,0,none⟩:Addr)).isNone=false:=by simpa using h18
   obtain⟨p,t,hp,ht⟩:=tT hs (by omega) h18'
   rw[eL hp]
   refine J 2 ?_
   refine .g (.dJ (Y.load isAgg3 rfl (Cell.LB (by repeat (first | exact At.here | refine At.there ?_)) (B1 hp ht) rfl)) (zp ht)) ?_
   exact JS 3
  ·intro h18
   exact JS 7
  refine JD 2 (fun h24=>?_) fun h24=>?_
  ·simp only[Bool.and_eq_true,decide_eq_true_eq,Bool.not_eq_true'] at h24
   refine J 3 ?_
   refine .aw rfl (af.gQ 3 rfl rfl (by kernel_rfl)) ?_
   rintro _ _ ⟨b27,rfl,rfl⟩
   refine .aw rfl (af.fi (enc:=aL) (k:=1) (k:Int) rfl underlying23 underlying23 typeInfo3 rfl rfl rfl (by decide) rfl rfl rfl .auto rfl .auto (by first | omega | (dsimp only;omega)) rfl) ?_
   rintro _ _ ⟨v28,rfl,rfl⟩
   refine J 8 ?_
   refine .bf (k+1,v28,xs++[(k:Int)]) .auto rfl ?_ ?_ ?_ ?_
   ·show 16-(k+1)<16-k;omega
   ·exact⟨by show k+1≤16;omega,by simp;omega,by rw[hn,GA hs (by omega) h24];simp⟩
   ·exact⟨rfl,rfl,trivial⟩
   ·exact fun w s=>aK.kept .auto w s
  ·simp only[Bool.and_eq_false_iff,decide_eq_false_iff_not,Bool.not_eq_false'] at h24
   refine J 7 ?_
   refine .bf (k+1,u,xs) .auto rfl ?_ ?_ ?_ ?_
   ·show 16-(k+1)<16-k;omega
   ·exact⟨by show k+1≤16;omega,by show xs.length≤k+1;omega,by rw[hn,I1 hs (by omega) h24]⟩
   ·exact⟨rfl,rfl,trivial⟩
   ·exact fun w s=>aK.kept .auto w s
 ·refine J 12 ?_
  obtain rfl:k=16:=by omega
  rw[B5 (by omega),List.append_nil] at hn
  subst hn
  refine .aC rfl rfl fun w s=>⟨_,?_,trivial,ar .auto s⟩
  rfl
theorem FT{W:World}{A:aa}{m c:Int}{v:Value}{aU:List Int}(hr:Rd W [A] aL 1 v aU):Fn Tryz.prog W 59 [.int .i64 m,.int .i64 c,v] [A] Nat (fun b=>ptr b) (fun _=>True) (fun b=>[cX b (Gates.new m c aU),A]):=by
 refine Fn.intro (N:=42) func59 rfl ntmps59 rfl fun F=>?_
 haveI hRI:∀ (H:List aa) [bX H A],aI W H v aL 1 aU:=fun H h=>⟨hr.at h.has⟩
 show ax _ _ _ _ _ _ [A,F]
 refine J 6 ?_
 refine .xj [] [0,2,4,0,2,4,0,4,0] [0,1,3,4,2,5,6,7,8] rfl (by kernel_rfl) ?_
 refine bQ.q rfl rfl rfl Kept.auto (Y.m rfl) ?_
 refine bQ.eO rfl (.inl rfl) rfl (fun _=>Kept.auto) call107 rfl nC .auto (fun _ _=>Kept.auto) ?_
 rintro⟨⟩ -
 refine bQ.q rfl rfl rfl Kept.auto (Y.m rfl) ?_
 refine bQ.eO rfl (.inl rfl) rfl (fun _=>Kept.auto) call107 rfl nC .auto (fun _ _=>Kept.auto) ?_
 rintro⟨⟩ -
 refine bQ.fresh rfl rfl rfl (by decide) Kept.auto (fz (enc:=lD) (k:=3) ((Value.slice none 0 0:Value),(⟨[],false,0⟩:dB)) (bb m 4).toNat underlying191 typeInfo278 rfl rfl rfl rfl (by decide) (by decide) rfl rfl (by unfold bb;omega) (by unfold bb;omega) (by unfold bb;omega)) ?_
 rintro b12
 refine bQ.fresh rfl rfl rfl (by decide) Kept.auto (fz (enc:=cn) (k:=1) ((Value.slice none 0 0:Value),([]:List dh)) (bb c 4).toNat underlying192 typeInfo198 rfl rfl rfl rfl (by decide) (by decide) rfl rfl (by unfold bb;omega) (by unfold bb;omega) (by unfold bb;omega)) ?_
 rintro b15
 refine bQ.q rfl rfl rfl Kept.auto (Y.gH (fun v1 v2=>[v1,v2,(.slice none 0 0)]) rfl rfl (by kernel_rfl)) ?_
 refine bQ.fresh rfl rfl rfl (by decide) Kept.auto (pH rfl rfl) ?_
 rintro b17
 refine bQ.q rfl rfl rfl Kept.auto (Y.a rfl) ?_
 refine bQ.nil ?_
 refine J 4 ?_
 refine .to (A:=sl lD 3 (.slice (some ⟨b12,0,none⟩) (bb m 4).toNat (bb m 4).toNat) (List.replicate (bb m 4).toNat ((Value.slice none 0 0:Value),(⟨[],false,0⟩:dB)))) .auto (jD rfl) ?_
 refine .to (A:=sl cn 1 (.slice (some ⟨b15,0,none⟩) (bb c 4).toNat (bb c 4).toNat) (List.replicate (bb c 4).toNat ((Value.slice none 0 0:Value),([]:List dh)))) .auto (jD rfl) ?_
 have hr4:=hr.cut (lo:=0) (hi:=min aU.length 4) (Nat.zero_le _) (by omega)
 rw[List.drop_zero,show aU.take (min aU.length 4)=aU.take 4 from by rw[List.take_eq_take_iff];omega] at hr4
 haveI hI4:∀ (H:List aa) [bX H A],aI W H (cut 1 0 (min aU.length 4) v) aL 1 (aU.take 4):=fun H h=>⟨hr4.at h.has⟩
 refine J 3 ?_
 refine .p (.qv rfl rfl) ?_
 refine .p (.sliceTo (min aU.length 4) underlying23 sizeOf3 rfl rfl Rd.s (by omega) (by omega)) ?_
 refine J 5 ?_
 refine .cM (X:=Nat×Value) [9,24,25,26,27,28,29,30,31,32,33,34,35,36,37,38,39,40] (fun z=>(aU.take 4).length-z.1) (fun z=>z.1≤(aU.take 4).length) (fun z=>[(24,some (.int .i64 (z.1:Int)))]) (fun z=>[arr b17 0 [.slice (some ⟨b12,0,none⟩) (bb m 4).toNat (bb m 4).toNat,.slice (some ⟨b15,0,none⟩) (bb c 4).toNat (bb c 4).toNat,z.2],sl lN 2 z.2 (((aU.take 4).take z.1).map (fun n=>((Value.slice none 0 0:Value),(⟨[],bb n 1048576⟩:jr)))),sl lD 3 (.slice (some ⟨b12,0,none⟩) (bb m 4).toNat (bb m 4).toNat) (List.replicate (bb m 4).toNat ((Value.slice none 0 0:Value),(⟨[],false,0⟩:dB))),sl cn 1 (.slice (some ⟨b15,0,none⟩) (bb c 4).toNat (bb c 4).toNat) (List.replicate (bb c 4).toNat ((Value.slice none 0 0:Value),([]:List dh))),A,F]) (0,.slice none 0 0) ?_ ?_ ?_ ?_
 ·exact Nat.zero_le _
 ·exact⟨rfl,trivial⟩
 ·exact fun w s=>aK.kept .auto w s
 rintro⟨k,u⟩ hk
 simp only at hk
 have h4:(aU.take 4).length≤4:=by simp;omega
 have h44:((aU.take 4).take k).length≤4:=by simp;omega
 refine JD 6 (fun h25=>?_) fun h25=>?_
 ·refine J 6 ?_
  obtain⟨x,hx⟩:=ay (show k<(aU.take 4).length by omega)
  refine J 5 ?_
  refine .draw [arr b17 0 [.slice (some ⟨b12,0,none⟩) (bb m 4).toNat (bb m 4).toNat,.slice (some ⟨b15,0,none⟩) (bb c 4).toNat (bb c 4).toNat,u]] [0,0,0,0,0,1,2,1,2,2,1,1,3] rfl (by kernel_rfl) ?_
  refine J 6 ?_
  refine .c2 call107 rfl nC fun _ _=>?_
  refine .p (.jt (fun v1=>[(.slice none 0 0),v1]) rfl (by kernel_rfl)) ?_
  refine .d2 rfl Kept.auto (af.gQ 200 rfl rfl (by kernel_rfl)) (by rintro _ _ ⟨b36,rfl,rfl⟩;exact Kept.auto) ?_
  rintro _ _ ⟨b36,rfl,rfl⟩
  refine .d2 rfl Kept.auto (af.fi (enc:=lN) (k:=2) ((Value.slice none 0 0:Value),(⟨[],bb x 1048576⟩:jr)) rfl underlying193 underlying193 typeInfo200 rfl rfl rfl (by decide) rfl rfl rfl .auto rfl .auto (by rw[List.length_map];dsimp only;omega) rfl) (by rintro _ _ ⟨v37,rfl,rfl⟩;exact Kept.auto) ?_
  rintro _ _ ⟨v37,rfl,rfl⟩
  refine J 2 ?_
  refine .d3 rfl (af.pz sizeOf193 rfl rfl rfl) ?_
  rintro _ _ ⟨rfl,rfl⟩
  refine J 7 ?_
  refine .bf (k+1,v37) .auto rfl ?_ ?_ ?_ ?_
  ·show(aU.take 4).length-(k+1)<(aU.take 4).length-k;omega
  ·show k+1≤_;omega
  ·exact⟨rfl,trivial⟩
  ·show ∀ w,Sat _ w _→Sat _ w (seps [_,sl lN 2 v37 (((aU.take 4).take (k+1)).map (fun n=>((Value.slice none 0 0:Value),(⟨[],bb n 1048576⟩:jr)))),_,_,A,F])
   rw[zq hx]
   exact fun w s=>aK.kept .auto w s
 ·refine J 12 ?_
  obtain rfl:k=(aU.take 4).length:=by omega
  rw[List.take_length]
  refine .aC rfl rfl fun w s=>⟨b17,?_,trivial,ar (by repeat (first | exact aK.nil | (apply aK.cons; · repeat (first | exact Take.here | apply Take.there)) | apply aK.Kv | apply aK.Kw | apply aK.void | apply aK.Ks | apply aK.two | (apply aK.Kt; · exact nL) | (apply aK.allM; · exact fun _=>nL) | apply aK.f1 rfl | apply aK.f2 rfl | apply aK.f3 rfl | apply aK.f4 rfl | apply aK.f10 rfl | apply aK.lE | assumption | exact trivial | rfl | omega | (focus (simp[Gates.new];done)) | (unfold Gates.new;simp only[List.map_map];rfl))) s⟩
  rfl
theorem FU{W:World}{A:aa}{v:bN}(hp:fp W [A] v)(hl:v.fs.length≤1000000000∧v.aU.length≤1000000000∧v.aG.length≤1000000000):Fn Tryz.prog W 9 [.agg (eH v).toArray] [A] (Option Nat) (fun o=>.tuple #[eJ o,.int .i64 (dD v.p)]) (fun o=>o.isSome=decide (dD v.p=0)) (fun o=>[optH (fun b=>cH b (Spc.new v.p)) o,A]):=by
 refine Fn.intro (N:=83) func9 rfl ntmps9 rfl fun F=>?_
 haveI hI1:∀ (H:List aa) [bX H A],aI W H v.fv cn 1 v.fs:=fun H h=>⟨hp.fs.at h.has⟩
 haveI hI2:∀ (H:List aa) [bX H A],aI W H v.sv aL 1 v.aU:=fun H h=>⟨hp.aU.at h.has⟩
 haveI hI3:∀ (H:List aa) [bX H A],aI W H v.pv aL 1 v.aG:=fun H h=>⟨hp.aG.at h.has⟩
 show ax _ _ _ _ _ _ [A,F]
 refine .fb (fun w s=>GB hp .here w s) fun hone=>?_
 refine J 2 ?_
 refine .aw rfl (af.box rfl rfl rfl) ?_
 rintro _ _ ⟨b1,rfl,rfl⟩
 refine J 8 ?_
 refine .c call57 rfl (Af hp hl) fun _ _=>?_
 refine JD 9 (fun h13=>?_) fun h13=>?_
 ·refine J 9 ?_
  refine .eo rfl rfl rfl fun w s=>⟨none,?_,(decide_eq_false h13).symm,ar .auto s⟩
  rfl
 ·refine J 3 ?_
  refine .xj [arr b1 0 (eH v)] [0,2,0,0,4,0,0,0,0,0,0,2,0,0,2,2,0,4,0] [0,1,2,3,5,6,7,8,9,10,11,12,13,14,15,4,16,17,18] rfl (by kernel_rfl) ?_
  have hcs:=nY (ng (Decidable.of_not_not h13))
  have hw:0≤v.words∧v.words≤64:=hcs.2.2.1
  have hf8:v.fs.length≤8:=by simpa [bN.p] using hcs.2.1
  have hp4:v.aG.length≤4:=hcs.2.2.2.2.2.2.2.2.1
  refine bQ.q rfl rfl rfl Kept.auto (Y.Gl isAgg25 rfl Cells.a (by exact sizeOf25)) ?_
  refine bQ.eO rfl (.inl rfl) rfl (fun _=>Kept.auto) call58 rfl FP .auto (fun _ _=>Kept.auto) ?_
  rintro x16 -
  refine bQ.q rfl rfl rfl Kept.auto (Y.dc 1 3 underlying25 rfl sizeOf3 rfl) ?_
  refine bQ.q rfl rfl rfl Kept.auto (Y.load isAgg3 rfl (Cell.a (by rfl))) ?_
  refine bQ.q rfl rfl rfl Kept.auto (Y.dc 2 3 underlying25 rfl sizeOf3 rfl) ?_
  refine bQ.q rfl rfl rfl Kept.auto (Y.load isAgg3 rfl (Cell.a (by rfl))) ?_
  refine bQ.q rfl rfl rfl Kept.auto (Y.dc 3 3 underlying25 rfl sizeOf3 rfl) ?_
  refine bQ.q rfl rfl rfl Kept.auto (Y.load isAgg3 rfl (Cell.a (by rfl))) ?_
  refine bQ.q rfl rfl rfl Kept.auto (Y.dc 4 23 underlying25 rfl sizeOf23 rfl) ?_
  refine bQ.q rfl rfl rfl Kept.auto (Y.load isAgg23 rfl (Cell.a (by rfl))) ?_
  refine bQ.eO rfl (.inl rfl) rfl (fun _=>Kept.auto) call59 rfl (FT hp.aU) .auto (fun _ _=>Kept.auto) ?_
  rintro x26 -
  refine bQ.q rfl rfl rfl Kept.auto (Y.dc 6 3 underlying25 rfl sizeOf3 rfl) ?_
  refine bQ.q rfl rfl rfl Kept.auto (Y.load isAgg3 rfl (Cell.a (by rfl))) ?_
  refine bQ.eO rfl (.inl rfl) rfl (fun _=>Kept.auto) call60 rfl FQ .auto (fun _ _=>Kept.auto) ?_
  rintro x29 -
  refine bQ.eO rfl (.inl rfl) rfl (fun _=>Kept.auto) call61 rfl C0 .auto (fun _ _=>Kept.auto) ?_
  rintro x30 -
  refine bQ.fresh rfl rfl rfl (by decide) Kept.auto (fz (enc:=bF) (k:=1) 0 v.words.toNat underlying55 typeInfo38 rfl rfl rfl rfl (by decide) (by decide) rfl rfl (by omega) (by omega) (by omega)) ?_
  rintro b19
  refine bQ.q rfl rfl rfl Kept.auto (Y.DI (fun _ v2 v3 v4 v5 v6=>[v.fv,.int .i64 v.words,.int .i64 v.aB,.int .i64 v.conds,v.sv,v.pv,.int .i64 v.blocks,.int .i64 v.prio,v2,.pointer none,.pointer none,.pointer none,.pointer none,.pointer none,.pointer none,.pointer none,.pointer none,.pointer none,.pointer none,.pointer none,.pointer none,.pointer none,.pointer none,.pointer none,.pointer none,v3,v4,.slice none 0 0,v5,v6,.slice none 0 0]) rfl rfl rfl rfl rfl rfl (by kernel_rfl)) ?_
  refine bQ.fresh rfl rfl rfl (by decide) Kept.auto (pH rfl rfl) ?_
  rintro b32
  refine bQ.q rfl rfl rfl Kept.auto (Y.a rfl) ?_
  refine bQ.nil ?_
  refine J 3 ?_
  refine .to (A:=sl bF 1 (.slice (some ⟨b19,0,none⟩) v.words.toNat v.words.toNat) (List.replicate v.words.toNat 0)) .auto (jD rfl) ?_
  refine J 3 ?_
  refine .c call62 rfl (HR hp.fs hl.1 hone) fun u36 _=>?_
  refine J 3 ?_
  refine .aw rfl (af.pz sizeOf22 rfl rfl rfl) ?_
  rintro _ _ ⟨rfl,rfl⟩
  refine J 15 ?_
  refine .cM (X:=Nat×List (Value×List Ins)) [6,7,46,47,48,49,50,51,52,53,54,55,56,57,58,59,60] (fun z=>v.fs.length-z.1) (fun z=>z.1≤v.fs.length∧z.2.length=z.1∧z.2.map (·.2)=(v.fs.take z.1).map (·.2)) (fun z=>[(46,some (.int .i64 (z.1:Int)))]) (fun z=>[arr b32 0 [u36,.int .i64 v.words,.int .i64 v.aB,.int .i64 v.conds,v.sv,v.pv,.int .i64 v.blocks,.int .i64 v.prio,ptr x16,.pointer none,.pointer none,.pointer none,.pointer none,.pointer none,.pointer none,.pointer none,.pointer none,.pointer none,.pointer none,.pointer none,.pointer none,.pointer none,.pointer none,.pointer none,.pointer none,.slice (some ⟨b19,0,none⟩) v.words.toNat v.words.toNat,ptr x26,.slice none 0 0,ptr x29,ptr x30,.slice none 0 0],sl cn 1 u36 (z.2++v.fs.drop z.1),aT (fun x=>sl dI 5 x.1 x.2) z.2,sl bF 1 (.slice (some ⟨b19,0,none⟩) v.words.toNat v.words.toNat) (List.replicate v.words.toNat 0),lC x16 (List.replicate (bb 16 1024).toNat (false,0)),cX x26 (Gates.new v.aB v.conds v.aU),nS x29 (jC.new v.blocks),m5 x30 j6.new,arr b1 0 (eH v),A,F]) (0,[]) ?_ ?_ ?_ ?_
  ·exact⟨Nat.zero_le _,rfl,by simp⟩
  ·exact⟨rfl,trivial⟩
  ·exact fun w s=>aK.kept .auto w s
  rintro⟨k,cl⟩ ⟨hk,hcl,hcm⟩
  simp only at hk hcl hcm
  refine JD 6 (fun h47=>?_) fun h47=>?_
  ·refine J 7 ?_
   obtain⟨x,hx⟩:=ay (show k<v.fs.length by omega)
   have hx2:=D3 hcl hx
   have hi:=hp.ins x (List.mem_of_getElem? hx)
   have hx256:x.2.length≤256:=vG (ng (Decidable.of_not_not h13)) (List.mem_of_getElem? hx)
   refine .p (.ix k rfl rfl rfl (by simp;omega)) ?_
   refine J 5 ?_
   refine .draw [arr b32 0 [u36,.int .i64 v.words,.int .i64 v.aB,.int .i64 v.conds,v.sv,v.pv,.int .i64 v.blocks,.int .i64 v.prio,ptr x16,.pointer none,.pointer none,.pointer none,.pointer none,.pointer none,.pointer none,.pointer none,.pointer none,.pointer none,.pointer none,.pointer none,.pointer none,.pointer none,.pointer none,.pointer none,.pointer none,.slice (some ⟨b19,0,none⟩) v.words.toNat v.words.toNat,ptr x26,.slice none 0 0,ptr x29,ptr x30,.slice none 0 0],sl cn 1 u36 (cl++v.fs.drop k)] [0,0,0,0,0,0,1,2,1,3] rfl (by kernel_rfl) ?_
   refine J 7 ?_
   refine .c2 call63 rfl (J8 hi (by omega)) fun u58 _=>?_
   refine .fb (fun w s=>Rd.isSl (Rd.sl .here) w s) fun hu58=>?_
   refine .p (.ix k rfl rfl rfl (by simp;omega)) ?_
   refine .d3 rfl (af.gL (x':=(u58,x.2)) rfl rfl sizeOf128 (nX hu58) (D3 hcl hx) (by decide) rfl (by repeat (first | exact gG.here | apply gG.there))) ?_
   rintro _ _ ⟨rfl,rfl⟩
   refine J 7 ?_
   refine .bf (k+1,cl++[(u58,x.2)]) .auto rfl ?_ ?_ ?_ ?_
   ·show v.fs.length-(k+1)<v.fs.length-k;omega
   ·exact⟨by show k+1≤_;omega,by simp[hcl],by rw[cy hx];simp[hcm]⟩
   ·exact⟨rfl,trivial⟩
   ·show ∀ w,Sat _ w _→Sat _ w (seps [_,sl cn 1 u36 ((cl++[(u58,x.2)])++v.fs.drop (k+1)),aT (fun x=>sl dI 5 x.1 x.2) (cl++[(u58,x.2)]),_,_,_,_,_,_,A,F])
    rw[← GC hcl hx,j7]
    exact fun w s=>aK.kept .auto w s
  ·refine J 15 ?_
   obtain rfl:k=v.fs.length:=by omega
   rw[List.drop_length,List.append_nil]
   refine .cM (X:=Nat×Value×List (Nat×Tub)) [9,64,65,66,67,68,69,70,71,72,73,74,75,76,77,78,79] (fun z=>v.aG.length-z.1) (fun z=>z.1≤v.aG.length∧z.2.2.length=z.1∧z.2.2.map (·.2)=(v.aG.take z.1).map Tub.new) (fun z=>[(64,some (.int .i64 (z.1:Int)))]) (fun z=>[arr b32 0 [u36,.int .i64 v.words,.int .i64 v.aB,.int .i64 v.conds,v.sv,v.pv,.int .i64 v.blocks,.int .i64 v.prio,ptr x16,.pointer none,.pointer none,.pointer none,.pointer none,.pointer none,.pointer none,.pointer none,.pointer none,.pointer none,.pointer none,.pointer none,.pointer none,.pointer none,.pointer none,.pointer none,.pointer none,.slice (some ⟨b19,0,none⟩) v.words.toNat v.words.toNat,ptr x26,z.2.1,ptr x29,ptr x30,.slice none 0 0],sl df 1 z.2.1 z.2.2,aT (fun x=>il x.1 x.2) z.2.2,sl cn 1 u36 cl,aT (fun x=>sl dI 5 x.1 x.2) cl,sl bF 1 (.slice (some ⟨b19,0,none⟩) v.words.toNat v.words.toNat) (List.replicate v.words.toNat 0),lC x16 (List.replicate (bb 16 1024).toNat (false,0)),cX x26 (Gates.new v.aB v.conds v.aU),nS x29 (jC.new v.blocks),m5 x30 j6.new,arr b1 0 (eH v),A,F]) (0,.slice none 0 0,[]) ?_ ?_ ?_ ?_
   ·exact⟨Nat.zero_le _,rfl,by simp⟩
   ·exact⟨rfl,trivial⟩
   ·exact fun w s=>aK.kept .auto w s
   rintro⟨k,vt,ts⟩ ⟨hk,htl,htm⟩
   simp only at hk htl htm
   refine JD 6 (fun h65=>?_) fun h65=>?_
   ·refine J 6 ?_
    obtain⟨x,hx⟩:=ay (show k<v.aG.length by omega)
    refine J 5 ?_
    refine .draw [arr b32 0 [u36,.int .i64 v.words,.int .i64 v.aB,.int .i64 v.conds,v.sv,v.pv,.int .i64 v.blocks,.int .i64 v.prio,ptr x16,.pointer none,.pointer none,.pointer none,.pointer none,.pointer none,.pointer none,.pointer none,.pointer none,.pointer none,.pointer none,.pointer none,.pointer none,.pointer none,.pointer none,.pointer none,.pointer none,.slice (some ⟨b19,0,none⟩) v.words.toNat v.words.toNat,ptr x26,vt,ptr x29,ptr x30,.slice none 0 0]] [0,0,0,0,0,1,2,2,2,1,1,3] rfl (by kernel_rfl) ?_
    refine J 6 ?_
    refine .c2 call64 rfl FR fun x74 _=>?_
    refine .d2 rfl Kept.auto (af.gQ 132 rfl rfl (by kernel_rfl)) (by rintro _ _ ⟨b75,rfl,rfl⟩;exact Kept.auto) ?_
    rintro _ _ ⟨b75,rfl,rfl⟩
    refine .d2 rfl Kept.auto (af.fi (enc:=df) (k:=1) ((x74,Tub.new x):Nat×Tub) rfl underlying124 underlying124 typeInfo132 rfl rfl rfl (by decide) rfl rfl rfl .auto rfl .auto (by first | omega | (dsimp only;omega)) rfl) (by rintro _ _ ⟨v76,rfl,rfl⟩;exact Kept.auto) ?_
    rintro _ _ ⟨v76,rfl,rfl⟩
    refine J 2 ?_
    refine .d3 rfl (af.pz sizeOf124 rfl rfl rfl) ?_
    rintro _ _ ⟨rfl,rfl⟩
    refine J 7 ?_
    refine .bf (k+1,v76,ts++[(x74,Tub.new x)]) .auto rfl ?_ ?_ ?_ ?_
    ·show v.aG.length-(k+1)<v.aG.length-k;omega
    ·exact⟨by show k+1≤_;omega,by simp[htl],by rw[cy hx];simp[htm]⟩
    ·exact⟨rfl,trivial⟩
    ·show ∀ w,Sat _ w _→Sat _ w (seps [_,sl df 1 v76 (ts++[(x74,Tub.new x)]),aT (fun x=>il x.1 x.2) (ts++[(x74,Tub.new x)]),_,_,_,_,_,_,_,_,A,F])
     rw[j7]
     exact fun w s=>aK.kept .auto w s
   ·refine J 8 ?_
    obtain rfl:k=v.aG.length:=by omega
    have htm2:ts.map (·.2)=(zr v.p).bA:=by rw[htm,List.take_length];rfl
    have hcm2:cl.map (·.2)=(zr v.p).dK.funcs:=by rw[hcm,List.take_length];rfl
    refine .c call65 rfl (td (ps:=List.replicate 16 none) (s:=zr v.p) (B6 _) rfl (B7 _)) fun qs _=>?_
    refine J 10 ?_
    refine .eo rfl rfl rfl fun w s=>⟨some b32,?_,(decide_eq_true (Decidable.of_not_not h13)).symm,ar .auto s⟩
    rw[Decidable.of_not_not h13];rfl
end Go.SLYtefdijgllbkmfaaGreat
namespace Go.SLYtefdijgllbkmfaaGreat
open Go Go.RowKit Go.Proofs Go.Proofs.Tryz
attribute [local irreducible] ax aQ bu cj bQ Y
theorem HT{W:World}{v:Value}{xs:List dh}{i:Nat}(hi:i<xs.length)(_hl:xs.length≤1000000000):Fn Tryz.prog W 212 [v,.int .i64 (i:Int),.int .i64 ((i+1:Nat):Int)] [sl cN 2 v xs] Value (fun u=>u) (fun _=>True) (fun u=>[sl cN 2 u (xs.eraseIdx i)]):=by
 refine Fn.intro (N:=33) func212 rfl ntmps212 rfl fun F=>?_
 show ax _ _ _ _ _ _ [sl cN 2 v xs,F]
 have h0:xs≠[]:=by intro e;rw[e] at hi;simp at hi
 refine .fb (fun w s=>s.fact .auto (j9 h0)) fun e=>?_
 obtain⟨b,cap,rfl,hc⟩:=e
 refine .s (.r (.p (.a rfl) (.n (.t (.s (.r (.p (.m rfl) (.p (.m rfl) (.p (.m rfl) (.p (.m rfl) (.p (.len rfl) ?_)))))))))))
 refine .p (.slice3 i (i+1) xs.length underlying196 sizeOf274 rfl rfl rfl rfl rfl rfl rfl (by omega) (by omega) hc) ?_
 refine .n (.t (.s (.s (.r (.p (.m rfl) (.p (.m rfl) (.p (.eql rfl rfl) (.n (.t (.dN rfl (fun h16=>?_) (fun h16=>?_)))))))))))
 ·exact absurd h16 (by omega)
 ·refine .v (.t (.s (.r (.p (.m rfl) (.p (.len rfl) (.p (.a rfl) (.n (.t (.s ?_)))))))))
  refine .draw [] [1,1,1,1,1,1,3,1] rfl (by kernel_rfl) ?_
  refine .p (.m rfl) (.p (.m rfl) ?_)
  refine .p (.nO i underlying196 sizeOf274 rfl rfl rfl (by omega)) ?_
  refine .p (.m rfl) (.p (.m rfl) ?_)
  refine .p (.nP (i+1) underlying196 sizeOf274 rfl rfl rfl (by omega)) ?_
  refine .d3 rfl (af.j0 rfl underlying196 underlying196 typeInfo274 rfl rfl rfl .auto (by omega) (by omega) (rR _) h0) ?_
  rintro _ _ ⟨rfl,rfl⟩
  refine .p (.a rfl) (.n (.t (.s (.r (.p (.m rfl) (.p (.m rfl) (.p (.lens rfl) (.p (.m rfl) ?_))))))))
  refine .p (.rL (i+(xs.length-(i+1))) xs.length underlying196 sizeOf274 rfl rfl rfl rfl rfl (by omega) hc) ?_
  refine .aw rfl (af.nQ (xs:=xs.take i++xs.drop (i+1)) underlying196 zeroValue274 rfl rfl rfl rfl (by rw[List.length_append,List.length_take,List.length_drop];omega) (by omega) .auto) ?_
  rintro _ _ ⟨rfl,rfl⟩
  refine .n (.t (.s (.r (.p (.m rfl) (.p (.a rfl) (.n (.t (.e ?_))))))))
  rw[kc]
  refine .aC rfl rfl fun w s=>⟨_,?_,trivial,ar .auto s⟩
  rfl
theorem HU{W:World}{v:Value}{xs:List pE}{i:Nat}(hi:i<xs.length)(_hl:xs.length≤1000000000):Fn Tryz.prog W 137 [v,.int .i64 (i:Int),.int .i64 ((i+1:Nat):Int)] [sl ec 4 v xs] Value (fun u=>u) (fun _=>True) (fun u=>[sl ec 4 u (xs.eraseIdx i)]):=by
 refine Fn.intro (N:=33) func137 rfl ntmps137 rfl fun F=>?_
 show ax _ _ _ _ _ _ [sl ec 4 v xs,F]
 have h0:xs≠[]:=by intro e;rw[e] at hi;simp at hi
 refine .fb (fun w s=>s.fact .auto (j9 h0)) fun e=>?_
 obtain⟨b,cap,rfl,hc⟩:=e
 refine .s (.r (.p (.a rfl) (.n (.t (.s (.r (.p (.m rfl) (.p (.m rfl) (.p (.m rfl) (.p (.m rfl) (.p (.len rfl) ?_)))))))))))
 refine .p (.slice3 i (i+1) xs.length underlying201 sizeOf170 rfl rfl rfl rfl rfl rfl rfl (by omega) (by omega) hc) ?_
 refine .n (.t (.s (.s (.r (.p (.m rfl) (.p (.m rfl) (.p (.eql rfl rfl) (.n (.t (.dN rfl (fun h16=>?_) (fun h16=>?_)))))))))))
 ·exact absurd h16 (by omega)
 ·refine .v (.t (.s (.r (.p (.m rfl) (.p (.len rfl) (.p (.a rfl) (.n (.t (.s ?_)))))))))
  refine .draw [] [1,1,1,1,1,1,3,1] rfl (by kernel_rfl) ?_
  refine .p (.m rfl) (.p (.m rfl) ?_)
  refine .p (.nO i underlying201 sizeOf170 rfl rfl rfl (by omega)) ?_
  refine .p (.m rfl) (.p (.m rfl) ?_)
  refine .p (.nP (i+1) underlying201 sizeOf170 rfl rfl rfl (by omega)) ?_
  refine .d3 rfl (af.j0 rfl underlying201 underlying201 typeInfo170 rfl rfl rfl .auto (by omega) (by omega) (rQ _) h0) ?_
  rintro _ _ ⟨rfl,rfl⟩
  refine .p (.a rfl) (.n (.t (.s (.r (.p (.m rfl) (.p (.m rfl) (.p (.lens rfl) (.p (.m rfl) ?_))))))))
  refine .p (.rL (i+(xs.length-(i+1))) xs.length underlying201 sizeOf170 rfl rfl rfl rfl rfl (by omega) hc) ?_
  refine .aw rfl (af.nQ (xs:=xs.take i++xs.drop (i+1)) underlying201 zeroValue170 rfl rfl rfl rfl (by rw[List.length_append,List.length_take,List.length_drop];omega) (by omega) .auto) ?_
  rintro _ _ ⟨rfl,rfl⟩
  refine .n (.t (.s (.r (.p (.m rfl) (.p (.a rfl) (.n (.t (.e ?_))))))))
  rw[kc]
  refine .aC rfl rfl fun w s=>⟨_,?_,trivial,ar .auto s⟩
  rfl
theorem HV{W:World}{v:Value}{xs:List Ptr}{i:Nat}(hi:i<xs.length)(_hl:xs.length≤1000000000):Fn Tryz.prog W 303 [v,.int .i64 (i:Int),.int .i64 ((i+1:Nat):Int)] [sl eP 2 v xs] Value (fun u=>u) (fun _=>True) (fun u=>[sl eP 2 u (xs.eraseIdx i)]):=by
 refine Fn.intro (N:=33) func303 rfl ntmps303 rfl fun F=>?_
 show ax _ _ _ _ _ _ [sl eP 2 v xs,F]
 have h0:xs≠[]:=by intro e;rw[e] at hi;simp at hi
 refine .fb (fun w s=>s.fact .auto (j9 h0)) fun e=>?_
 obtain⟨b,cap,rfl,hc⟩:=e
 refine .s (.r (.p (.a rfl) (.n (.t (.s (.r (.p (.m rfl) (.p (.m rfl) (.p (.m rfl) (.p (.m rfl) (.p (.len rfl) ?_)))))))))))
 refine .p (.slice3 i (i+1) xs.length underlying207 sizeOf363 rfl rfl rfl rfl rfl rfl rfl (by omega) (by omega) hc) ?_
 refine .n (.t (.s (.s (.r (.p (.m rfl) (.p (.m rfl) (.p (.eql rfl rfl) (.n (.t (.dN rfl (fun h16=>?_) (fun h16=>?_)))))))))))
 ·exact absurd h16 (by omega)
 ·refine .v (.t (.s (.r (.p (.m rfl) (.p (.len rfl) (.p (.a rfl) (.n (.t (.s ?_)))))))))
  refine .draw [] [1,1,1,1,1,1,3,1] rfl (by kernel_rfl) ?_
  refine .p (.m rfl) (.p (.m rfl) ?_)
  refine .p (.nO i underlying207 sizeOf363 rfl rfl rfl (by omega)) ?_
  refine .p (.m rfl) (.p (.m rfl) ?_)
  refine .p (.nP (i+1) underlying207 sizeOf363 rfl rfl rfl (by omega)) ?_
  refine .d3 rfl (af.j0 rfl underlying207 underlying207 typeInfo363 rfl rfl rfl .auto (by omega) (by omega) (xp _) h0) ?_
  rintro _ _ ⟨rfl,rfl⟩
  refine .p (.a rfl) (.n (.t (.s (.r (.p (.m rfl) (.p (.m rfl) (.p (.lens rfl) (.p (.m rfl) ?_))))))))
  refine .p (.rL (i+(xs.length-(i+1))) xs.length underlying207 sizeOf363 rfl rfl rfl rfl rfl (by omega) hc) ?_
  refine .aw rfl (af.nQ (xs:=xs.take i++xs.drop (i+1)) underlying207 zeroValue363 rfl rfl rfl rfl (by rw[List.length_append,List.length_take,List.length_drop];omega) (by omega) .auto) ?_
  rintro _ _ ⟨rfl,rfl⟩
  refine .n (.t (.s (.r (.p (.m rfl) (.p (.a rfl) (.n (.t (.e ?_))))))))
  rw[kc]
  refine .aC rfl rfl fun w s=>⟨_,?_,trivial,ar .auto s⟩
  rfl
theorem HW{W:World}{v:Value}{xs:List Int}{i:Nat}(hi:i<xs.length)(_hl:xs.length≤1000000000):Fn Tryz.prog W 301 [v,.int .i64 (i:Int),.int .i64 ((i+1:Nat):Int)] [sl aL 1 v xs] Value (fun u=>u) (fun _=>True) (fun u=>[sl aL 1 u (xs.eraseIdx i)]):=by
 refine Fn.intro (N:=33) func301 rfl ntmps301 rfl fun F=>?_
 show ax _ _ _ _ _ _ [sl aL 1 v xs,F]
 have h0:xs≠[]:=by intro e;rw[e] at hi;simp at hi
 refine .fb (fun w s=>s.fact .auto (j9 h0)) fun e=>?_
 obtain⟨b,cap,rfl,hc⟩:=e
 refine .s (.r (.p (.a rfl) (.n (.t (.s (.r (.p (.m rfl) (.p (.m rfl) (.p (.m rfl) (.p (.m rfl) (.p (.len rfl) ?_)))))))))))
 refine .p (.slice3 i (i+1) xs.length underlying23 sizeOf3 rfl rfl rfl rfl rfl rfl rfl (by omega) (by omega) hc) ?_
 refine .n (.t (.s (.s (.r (.p (.m rfl) (.p (.m rfl) (.p (.eql rfl rfl) (.n (.t (.dN rfl (fun h16=>?_) (fun h16=>?_)))))))))))
 ·exact absurd h16 (by omega)
 ·refine .v (.t (.s (.r (.p (.m rfl) (.p (.len rfl) (.p (.a rfl) (.n (.t (.s ?_)))))))))
  refine .draw [] [1,1,1,1,1,1,3,1] rfl (by kernel_rfl) ?_
  refine .p (.m rfl) (.p (.m rfl) ?_)
  refine .p (.nO i underlying23 sizeOf3 rfl rfl rfl (by omega)) ?_
  refine .p (.m rfl) (.p (.m rfl) ?_)
  refine .p (.nP (i+1) underlying23 sizeOf3 rfl rfl rfl (by omega)) ?_
  refine .d3 rfl (af.j0 rfl underlying23 underlying23 typeInfo3 rfl rfl rfl .auto (by omega) (by omega) (nU _) h0) ?_
  rintro _ _ ⟨rfl,rfl⟩
  refine .p (.a rfl) (.n (.t (.s (.r (.p (.m rfl) (.p (.m rfl) (.p (.lens rfl) (.p (.m rfl) ?_))))))))
  refine .p (.rL (i+(xs.length-(i+1))) xs.length underlying23 sizeOf3 rfl rfl rfl rfl rfl (by omega) hc) ?_
  refine .aw rfl (af.nQ (xs:=xs.take i++xs.drop (i+1)) underlying23 zeroValue3 rfl rfl rfl rfl (by rw[List.length_append,List.length_take,List.length_drop];omega) (by omega) .auto) ?_
  rintro _ _ ⟨rfl,rfl⟩
  refine .n (.t (.s (.r (.p (.m rfl) (.p (.a rfl) (.n (.t (.e ?_))))))))
  rw[kc]
  refine .aC rfl rfl fun w s=>⟨_,?_,trivial,ar .auto s⟩
  rfl
theorem HX{W:World}{v:Value}{xs:List Int}{i:Nat}(hi:i<xs.length)(_hl:xs.length≤1000000000):Fn Tryz.prog W 302 [v,.int .i64 (i:Int),.int .i64 ((i+1:Nat):Int)] [sl bF 1 v xs] Value (fun u=>u) (fun _=>True) (fun u=>[sl bF 1 u (xs.eraseIdx i)]):=by
 refine Fn.intro (N:=33) func302 rfl ntmps302 rfl fun F=>?_
 show ax _ _ _ _ _ _ [sl bF 1 v xs,F]
 have h0:xs≠[]:=by intro e;rw[e] at hi;simp at hi
 refine .fb (fun w s=>s.fact .auto (j9 h0)) fun e=>?_
 obtain⟨b,cap,rfl,hc⟩:=e
 refine .s (.r (.p (.a rfl) (.n (.t (.s (.r (.p (.m rfl) (.p (.m rfl) (.p (.m rfl) (.p (.m rfl) (.p (.len rfl) ?_)))))))))))
 refine .p (.slice3 i (i+1) xs.length underlying55 sizeOf38 rfl rfl rfl rfl rfl rfl rfl (by omega) (by omega) hc) ?_
 refine .n (.t (.s (.s (.r (.p (.m rfl) (.p (.m rfl) (.p (.eql rfl rfl) (.n (.t (.dN rfl (fun h16=>?_) (fun h16=>?_)))))))))))
 ·exact absurd h16 (by omega)
 ·refine .v (.t (.s (.r (.p (.m rfl) (.p (.len rfl) (.p (.a rfl) (.n (.t (.s ?_)))))))))
  refine .draw [] [1,1,1,1,1,1,3,1] rfl (by kernel_rfl) ?_
  refine .p (.m rfl) (.p (.m rfl) ?_)
  refine .p (.nO i underlying55 sizeOf38 rfl rfl rfl (by omega)) ?_
  refine .p (.m rfl) (.p (.m rfl) ?_)
  refine .p (.nP (i+1) underlying55 sizeOf38 rfl rfl rfl (by omega)) ?_
  refine .d3 rfl (af.j0 rfl underlying55 underlying55 typeInfo38 rfl rfl rfl .auto (by omega) (by omega) (nV _) h0) ?_
  rintro _ _ ⟨rfl,rfl⟩
  refine .p (.a rfl) (.n (.t (.s (.r (.p (.m rfl) (.p (.m rfl) (.p (.lens rfl) (.p (.m rfl) ?_))))))))
  refine .p (.rL (i+(xs.length-(i+1))) xs.length underlying55 sizeOf38 rfl rfl rfl rfl rfl (by omega) hc) ?_
  refine .aw rfl (af.nQ (xs:=xs.take i++xs.drop (i+1)) underlying55 zeroValue38 rfl rfl rfl rfl (by rw[List.length_append,List.length_take,List.length_drop];omega) (by omega) .auto) ?_
  rintro _ _ ⟨rfl,rfl⟩
  refine .n (.t (.s (.r (.p (.m rfl) (.p (.a rfl) (.n (.t (.e ?_))))))))
  rw[kc]
  refine .aC rfl rfl fun w s=>⟨_,?_,trivial,ar .auto s⟩
  rfl
theorem Ah{W:World}{A:aa}{v:Value}{xs:List dh}{p:dh→Bool}{g:Nat}{c:Value}(hr:Rd W [A] cN 2 v xs)(hl:xs.length≤1000000000)(hg:∀ args w,(callFunc g args).run Tryz.prog w = .ok (.enter g args) w)(hf:∀ x∈xs,Fn Tryz.prog W g [.agg (cN x).toArray,c] [A] Unit (fun _=>.bool (p x)) (fun _=>True) (fun _=>[A])):Fn Tryz.prog W 317 [v,.func (.func g) #[] #[c]] [A] Unit (fun _=>.int .i64 (idxP p xs 0)) (fun _=>True) (fun _=>[A]):=by
 refine Fn.intro (N:=19) func317 rfl ntmps317 rfl fun F=>?_
 haveI hRI:∀ (H:List aa) [bX H A],aI W H v cN 2 xs:=fun H h=>⟨hr.at h.has⟩
 show ax _ _ _ _ _ _ [A,F]
 refine J 14 ?_
 refine .cM (X:=Nat) [4,5,8,9,10,11,12,13,14,15,16,17,18] (fun k=>xs.length-k) (fun k=>k≤xs.length∧idxP p xs 0=idxP p (xs.drop k) k) (fun k=>[(8,some (.int .i64 (k:Int)))]) (fun k=>[A,F]) 0 ?_ ?_ ?_ ?_
 ·exact⟨Nat.zero_le _,by simp⟩
 ·exact⟨rfl,trivial⟩
 ·exact fun w s=>aK.kept .auto w s
 rintro k ⟨hk,hn⟩
 refine JD 6 (fun h9=>?_) fun h9=>?_
 ·refine J 15 ?_
  obtain⟨x,hx⟩:=ay (show k<xs.length by omega)
  refine J 2 ?_
  refine .aw rfl (af.pD rfl rfl hg rfl (hf x (List.mem_of_getElem? hx)) .auto) ?_
  rintro _ _ ⟨⟨⟩, -,rfl,rfl⟩
  refine JD 2 (fun h16=>?_) fun h16=>?_
  ·refine J 12 ?_
   refine .aC rfl rfl fun w s=>⟨(),?_,trivial,ar .auto s⟩
   rw[hn,ke hx h16]
  ·refine J 7 ?_
   refine .bf (k+1) .auto rfl ?_ ?_ ?_ ?_
   ·first | omega | (dsimp only;omega)
   ·exact⟨by omega,hn.trans (iP hx h16)⟩
   ·exact⟨rfl,trivial⟩
   ·exact fun w s=>aK.kept .auto w s
 ·refine J 11 ?_
  refine .aC rfl rfl fun w s=>⟨(),?_,trivial,ar .auto s⟩
  rw[hn,kh (by omega)]
theorem tF{W:World}{A:aa}{v:Value}{xs:List dh}{p:dh→Bool}{g:Nat}{c:Value}(hr:Rd W [A] cN 2 v xs)(hl:xs.length≤1000000000)(hg:∀ args w,(callFunc g args).run Tryz.prog w = .ok (.enter g args) w)(hf:∀ x∈xs,Fn Tryz.prog W g [.agg (cN x).toArray,c] [A] Unit (fun _=>.bool (p x)) (fun _=>True) (fun _=>[A])):Fn Tryz.prog W 293 [v,.func (.func g) #[] #[c]] [A] Unit (fun _=>.bool (xs.any p)) (fun _=>True) (fun _=>[A]):=by
 refine Fn.intro (N:=9) func293 rfl ntmps293 rfl fun F=>?_
 show ax _ _ _ _ _ _ [A,F]
 refine J 9 ?_
 refine .c call317 rfl (Ah hr hl hg hf) fun _ _=>?_
 refine J 5 ?_
 refine .aC rfl rfl fun w s=>⟨(),?_,trivial,ar .auto s⟩
 rw[← ja xs 0]
theorem Ai{W:World}{A:aa}{v:Value}{xs:List pE}{p:pE→Bool}{g:Nat}{c:Value}(hr:Rd W [A] ec 4 v xs)(hl:xs.length≤1000000000)(hg:∀ args w,(callFunc g args).run Tryz.prog w = .ok (.enter g args) w)(hf:∀ x∈xs,Fn Tryz.prog W g [.agg (ec x).toArray,c] [A] Unit (fun _=>.bool (p x)) (fun _=>True) (fun _=>[A])):Fn Tryz.prog W 297 [v,.func (.func g) #[] #[c]] [A] Unit (fun _=>.int .i64 (idxP p xs 0)) (fun _=>True) (fun _=>[A]):=by
 refine Fn.intro (N:=19) func297 rfl ntmps297 rfl fun F=>?_
 haveI hRI:∀ (H:List aa) [bX H A],aI W H v ec 4 xs:=fun H h=>⟨hr.at h.has⟩
 show ax _ _ _ _ _ _ [A,F]
 refine J 14 ?_
 refine .cM (X:=Nat) [4,5,8,9,10,11,12,13,14,15,16,17,18] (fun k=>xs.length-k) (fun k=>k≤xs.length∧idxP p xs 0=idxP p (xs.drop k) k) (fun k=>[(8,some (.int .i64 (k:Int)))]) (fun k=>[A,F]) 0 ?_ ?_ ?_ ?_
 ·exact⟨Nat.zero_le _,by simp⟩
 ·exact⟨rfl,trivial⟩
 ·exact fun w s=>aK.kept .auto w s
 rintro k ⟨hk,hn⟩
 refine JD 6 (fun h9=>?_) fun h9=>?_
 ·refine J 15 ?_
  obtain⟨x,hx⟩:=ay (show k<xs.length by omega)
  refine J 2 ?_
  refine .aw rfl (af.pD rfl rfl hg rfl (hf x (List.mem_of_getElem? hx)) .auto) ?_
  rintro _ _ ⟨⟨⟩, -,rfl,rfl⟩
  refine JD 2 (fun h16=>?_) fun h16=>?_
  ·refine J 12 ?_
   refine .aC rfl rfl fun w s=>⟨(),?_,trivial,ar .auto s⟩
   rw[hn,ke hx h16]
  ·refine J 7 ?_
   refine .bf (k+1) .auto rfl ?_ ?_ ?_ ?_
   ·first | omega | (dsimp only;omega)
   ·exact⟨by omega,hn.trans (iP hx h16)⟩
   ·exact⟨rfl,trivial⟩
   ·exact fun w s=>aK.kept .auto w s
 ·refine J 11 ?_
  refine .aC rfl rfl fun w s=>⟨(),?_,trivial,ar .auto s⟩
  rw[hn,kh (by omega)]
theorem tG{W:World}{A:aa}{v:Value}{xs:List pE}{p:pE→Bool}{g:Nat}{c:Value}(hr:Rd W [A] ec 4 v xs)(hl:xs.length≤1000000000)(hg:∀ args w,(callFunc g args).run Tryz.prog w = .ok (.enter g args) w)(hf:∀ x∈xs,Fn Tryz.prog W g [.agg (ec x).toArray,c] [A] Unit (fun _=>.bool (p x)) (fun _=>True) (fun _=>[A])):Fn Tryz.prog W 263 [v,.func (.func g) #[] #[c]] [A] Unit (fun _=>.bool (xs.any p)) (fun _=>True) (fun _=>[A]):=by
 refine Fn.intro (N:=9) func263 rfl ntmps263 rfl fun F=>?_
 show ax _ _ _ _ _ _ [A,F]
 refine J 9 ?_
 refine .c call297 rfl (Ai hr hl hg hf) fun _ _=>?_
 refine J 5 ?_
 refine .aC rfl rfl fun w s=>⟨(),?_,trivial,ar .auto s⟩
 rw[← ja xs 0]
theorem Aj{W:World}{A:aa}{v:Value}{xs:List Ptr}{p:Ptr→Bool}{g:Nat}{c:Value}(hr:Rd W [A] eP 2 v xs)(hl:xs.length≤1000000000)(hg:∀ args w,(callFunc g args).run Tryz.prog w = .ok (.enter g args) w)(hf:∀ x∈xs,Fn Tryz.prog W g [.agg (eP x).toArray,c] [A] Unit (fun _=>.bool (p x)) (fun _=>True) (fun _=>[A])):Fn Tryz.prog W 319 [v,.func (.func g) #[] #[c]] [A] Unit (fun _=>.int .i64 (idxP p xs 0)) (fun _=>True) (fun _=>[A]):=by
 refine Fn.intro (N:=19) func319 rfl ntmps319 rfl fun F=>?_
 haveI hRI:∀ (H:List aa) [bX H A],aI W H v eP 2 xs:=fun H h=>⟨hr.at h.has⟩
 show ax _ _ _ _ _ _ [A,F]
 refine J 14 ?_
 refine .cM (X:=Nat) [4,5,8,9,10,11,12,13,14,15,16,17,18] (fun k=>xs.length-k) (fun k=>k≤xs.length∧idxP p xs 0=idxP p (xs.drop k) k) (fun k=>[(8,some (.int .i64 (k:Int)))]) (fun k=>[A,F]) 0 ?_ ?_ ?_ ?_
 ·exact⟨Nat.zero_le _,by simp⟩
 ·exact⟨rfl,trivial⟩
 ·exact fun w s=>aK.kept .auto w s
 rintro k ⟨hk,hn⟩
 refine JD 6 (fun h9=>?_) fun h9=>?_
 ·refine J 15 ?_
  obtain⟨x,hx⟩:=ay (show k<xs.length by omega)
  refine J 2 ?_
  refine .aw rfl (af.pD rfl rfl hg rfl (hf x (List.mem_of_getElem? hx)) .auto) ?_
  rintro _ _ ⟨⟨⟩, -,rfl,rfl⟩
  refine JD 2 (fun h16=>?_) fun h16=>?_
  ·refine J 12 ?_
   refine .aC rfl rfl fun w s=>⟨(),?_,trivial,ar .auto s⟩
   rw[hn,ke hx h16]
  ·refine J 7 ?_
   refine .bf (k+1) .auto rfl ?_ ?_ ?_ ?_
   ·first | omega | (dsimp only;omega)
   ·exact⟨by omega,hn.trans (iP hx h16)⟩
   ·exact⟨rfl,trivial⟩
   ·exact fun w s=>aK.kept .auto w s
 ·refine J 11 ?_
  refine .aC rfl rfl fun w s=>⟨(),?_,trivial,ar .auto s⟩
  rw[hn,kh (by omega)]
theorem tH{W:World}{A:aa}{v:Value}{xs:List Ptr}{p:Ptr→Bool}{g:Nat}{c:Value}(hr:Rd W [A] eP 2 v xs)(hl:xs.length≤1000000000)(hg:∀ args w,(callFunc g args).run Tryz.prog w = .ok (.enter g args) w)(hf:∀ x∈xs,Fn Tryz.prog W g [.agg (eP x).toArray,c] [A] Unit (fun _=>.bool (p x)) (fun _=>True) (fun _=>[A])):Fn Tryz.prog W 299 [v,.func (.func g) #[] #[c]] [A] Unit (fun _=>.bool (xs.any p)) (fun _=>True) (fun _=>[A]):=by
 refine Fn.intro (N:=9) func299 rfl ntmps299 rfl fun F=>?_
 show ax _ _ _ _ _ _ [A,F]
 refine J 9 ?_
 refine .c call319 rfl (Aj hr hl hg hf) fun _ _=>?_
 refine J 5 ?_
 refine .aC rfl rfl fun w s=>⟨(),?_,trivial,ar .auto s⟩
 rw[← ja xs 0]
theorem Ak{W:World}{A:aa}{v:Value}{xs:List (Value×dB)}{p:(Value×dB)→Bool}{g:Nat}{c:Value}(hr:Rd W [A] lD 3 v xs)(hl:xs.length≤1000000000)(hg:∀ args w,(callFunc g args).run Tryz.prog w = .ok (.enter g args) w)(hf:∀ x∈xs,Fn Tryz.prog W g [.agg (lD x).toArray,c] [A] Unit (fun _=>.bool (p x)) (fun _=>True) (fun _=>[A])):Fn Tryz.prog W 292 [v,.func (.func g) #[] #[c]] [A] Unit (fun _=>.int .i64 (idxP p xs 0)) (fun _=>True) (fun _=>[A]):=by
 refine Fn.intro (N:=19) func292 rfl ntmps292 rfl fun F=>?_
 haveI hRI:∀ (H:List aa) [bX H A],aI W H v lD 3 xs:=fun H h=>⟨hr.at h.has⟩
 show ax _ _ _ _ _ _ [A,F]
 refine J 14 ?_
 refine .cM (X:=Nat) [4,5,8,9,10,11,12,13,14,15,16,17,18] (fun k=>xs.length-k) (fun k=>k≤xs.length∧idxP p xs 0=idxP p (xs.drop k) k) (fun k=>[(8,some (.int .i64 (k:Int)))]) (fun k=>[A,F]) 0 ?_ ?_ ?_ ?_
 ·exact⟨Nat.zero_le _,by simp⟩
 ·exact⟨rfl,trivial⟩
 ·exact fun w s=>aK.kept .auto w s
 rintro k ⟨hk,hn⟩
 refine JD 6 (fun h9=>?_) fun h9=>?_
 ·refine J 15 ?_
  obtain⟨x,hx⟩:=ay (show k<xs.length by omega)
  refine J 2 ?_
  refine .aw rfl (af.pD rfl rfl hg rfl (hf x (List.mem_of_getElem? hx)) .auto) ?_
  rintro _ _ ⟨⟨⟩, -,rfl,rfl⟩
  refine JD 2 (fun h16=>?_) fun h16=>?_
  ·refine J 12 ?_
   refine .aC rfl rfl fun w s=>⟨(),?_,trivial,ar .auto s⟩
   rw[hn,ke hx h16]
  ·refine J 7 ?_
   refine .bf (k+1) .auto rfl ?_ ?_ ?_ ?_
   ·first | omega | (dsimp only;omega)
   ·exact⟨by omega,hn.trans (iP hx h16)⟩
   ·exact⟨rfl,trivial⟩
   ·exact fun w s=>aK.kept .auto w s
 ·refine J 11 ?_
  refine .aC rfl rfl fun w s=>⟨(),?_,trivial,ar .auto s⟩
  rw[hn,kh (by omega)]
theorem tI{W:World}{A:aa}{v:Value}{xs:List (Value×dB)}{p:(Value×dB)→Bool}{g:Nat}{c:Value}(hr:Rd W [A] lD 3 v xs)(hl:xs.length≤1000000000)(hg:∀ args w,(callFunc g args).run Tryz.prog w = .ok (.enter g args) w)(hf:∀ x∈xs,Fn Tryz.prog W g [.agg (lD x).toArray,c] [A] Unit (fun _=>.bool (p x)) (fun _=>True) (fun _=>[A])):Fn Tryz.prog W 256 [v,.func (.func g) #[] #[c]] [A] Unit (fun _=>.bool (xs.any p)) (fun _=>True) (fun _=>[A]):=by
 refine Fn.intro (N:=9) func256 rfl ntmps256 rfl fun F=>?_
 show ax _ _ _ _ _ _ [A,F]
 refine J 9 ?_
 refine .c call292 rfl (Ak hr hl hg hf) fun _ _=>?_
 refine J 5 ?_
 refine .aC rfl rfl fun w s=>⟨(),?_,trivial,ar .auto s⟩
 rw[← ja xs 0]
theorem Al{W:World}{A:aa}{v:Value}{xs:List (Value×List dh)}{p:(Value×List dh)→Bool}{g:Nat}{c:Value}(hr:Rd W [A] cn 1 v xs)(hl:xs.length≤1000000000)(hg:∀ args w,(callFunc g args).run Tryz.prog w = .ok (.enter g args) w)(hf:∀ x∈xs,Fn Tryz.prog W g [.agg (cn x).toArray,c] [A] Unit (fun _=>.bool (p x)) (fun _=>True) (fun _=>[A])):Fn Tryz.prog W 295 [v,.func (.func g) #[] #[c]] [A] Unit (fun _=>.int .i64 (idxP p xs 0)) (fun _=>True) (fun _=>[A]):=by
 refine Fn.intro (N:=19) func295 rfl ntmps295 rfl fun F=>?_
 haveI hRI:∀ (H:List aa) [bX H A],aI W H v cn 1 xs:=fun H h=>⟨hr.at h.has⟩
 show ax _ _ _ _ _ _ [A,F]
 refine J 14 ?_
 refine .cM (X:=Nat) [4,5,8,9,10,11,12,13,14,15,16,17,18] (fun k=>xs.length-k) (fun k=>k≤xs.length∧idxP p xs 0=idxP p (xs.drop k) k) (fun k=>[(8,some (.int .i64 (k:Int)))]) (fun k=>[A,F]) 0 ?_ ?_ ?_ ?_
 ·exact⟨Nat.zero_le _,by simp⟩
 ·exact⟨rfl,trivial⟩
 ·exact fun w s=>aK.kept .auto w s
 rintro k ⟨hk,hn⟩
 refine JD 6 (fun h9=>?_) fun h9=>?_
 ·refine J 15 ?_
  obtain⟨x,hx⟩:=ay (show k<xs.length by omega)
  refine J 2 ?_
  refine .aw rfl (af.pD rfl rfl hg rfl (hf x (List.mem_of_getElem? hx)) .auto) ?_
  rintro _ _ ⟨⟨⟩, -,rfl,rfl⟩
  refine JD 2 (fun h16=>?_) fun h16=>?_
  ·refine J 12 ?_
   refine .aC rfl rfl fun w s=>⟨(),?_,trivial,ar .auto s⟩
   rw[hn,ke hx h16]
  ·refine J 7 ?_
   refine .bf (k+1) .auto rfl ?_ ?_ ?_ ?_
   ·first | omega | (dsimp only;omega)
   ·exact⟨by omega,hn.trans (iP hx h16)⟩
   ·exact⟨rfl,trivial⟩
   ·exact fun w s=>aK.kept .auto w s
 ·refine J 11 ?_
  refine .aC rfl rfl fun w s=>⟨(),?_,trivial,ar .auto s⟩
  rw[hn,kh (by omega)]
theorem tJ{W:World}{A:aa}{v:Value}{xs:List (Value×List dh)}{p:(Value×List dh)→Bool}{g:Nat}{c:Value}(hr:Rd W [A] cn 1 v xs)(hl:xs.length≤1000000000)(hg:∀ args w,(callFunc g args).run Tryz.prog w = .ok (.enter g args) w)(hf:∀ x∈xs,Fn Tryz.prog W g [.agg (cn x).toArray,c] [A] Unit (fun _=>.bool (p x)) (fun _=>True) (fun _=>[A])):Fn Tryz.prog W 259 [v,.func (.func g) #[] #[c]] [A] Unit (fun _=>.bool (xs.any p)) (fun _=>True) (fun _=>[A]):=by
 refine Fn.intro (N:=9) func259 rfl ntmps259 rfl fun F=>?_
 show ax _ _ _ _ _ _ [A,F]
 refine J 9 ?_
 refine .c call295 rfl (Al hr hl hg hf) fun _ _=>?_
 refine J 5 ?_
 refine .aC rfl rfl fun w s=>⟨(),?_,trivial,ar .auto s⟩
 rw[← ja xs 0]
theorem Am{W:World}{A:aa}{v:Value}{xs:List (Value×jr)}{p:(Value×jr)→Bool}{g:Nat}{c:Value}(hr:Rd W [A] lN 2 v xs)(hl:xs.length≤1000000000)(hg:∀ args w,(callFunc g args).run Tryz.prog w = .ok (.enter g args) w)(hf:∀ x∈xs,Fn Tryz.prog W g [.agg (lN x).toArray,c] [A] Unit (fun _=>.bool (p x)) (fun _=>True) (fun _=>[A])):Fn Tryz.prog W 296 [v,.func (.func g) #[] #[c]] [A] Unit (fun _=>.int .i64 (idxP p xs 0)) (fun _=>True) (fun _=>[A]):=by
 refine Fn.intro (N:=19) func296 rfl ntmps296 rfl fun F=>?_
 haveI hRI:∀ (H:List aa) [bX H A],aI W H v lN 2 xs:=fun H h=>⟨hr.at h.has⟩
 show ax _ _ _ _ _ _ [A,F]
 refine J 14 ?_
 refine .cM (X:=Nat) [4,5,8,9,10,11,12,13,14,15,16,17,18] (fun k=>xs.length-k) (fun k=>k≤xs.length∧idxP p xs 0=idxP p (xs.drop k) k) (fun k=>[(8,some (.int .i64 (k:Int)))]) (fun k=>[A,F]) 0 ?_ ?_ ?_ ?_
 ·exact⟨Nat.zero_le _,by simp⟩
 ·exact⟨rfl,trivial⟩
 ·exact fun w s=>aK.kept .auto w s
 rintro k ⟨hk,hn⟩
 refine JD 6 (fun h9=>?_) fun h9=>?_
 ·refine J 15 ?_
  obtain⟨x,hx⟩:=ay (show k<xs.length by omega)
  refine J 2 ?_
  refine .aw rfl (af.pD rfl rfl hg rfl (hf x (List.mem_of_getElem? hx)) .auto) ?_
  rintro _ _ ⟨⟨⟩, -,rfl,rfl⟩
  refine JD 2 (fun h16=>?_) fun h16=>?_
  ·refine J 12 ?_
   refine .aC rfl rfl fun w s=>⟨(),?_,trivial,ar .auto s⟩
   rw[hn,ke hx h16]
  ·refine J 7 ?_
   refine .bf (k+1) .auto rfl ?_ ?_ ?_ ?_
   ·first | omega | (dsimp only;omega)
   ·exact⟨by omega,hn.trans (iP hx h16)⟩
   ·exact⟨rfl,trivial⟩
   ·exact fun w s=>aK.kept .auto w s
 ·refine J 11 ?_
  refine .aC rfl rfl fun w s=>⟨(),?_,trivial,ar .auto s⟩
  rw[hn,kh (by omega)]
theorem tK{W:World}{A:aa}{v:Value}{xs:List (Value×jr)}{p:(Value×jr)→Bool}{g:Nat}{c:Value}(hr:Rd W [A] lN 2 v xs)(hl:xs.length≤1000000000)(hg:∀ args w,(callFunc g args).run Tryz.prog w = .ok (.enter g args) w)(hf:∀ x∈xs,Fn Tryz.prog W g [.agg (lN x).toArray,c] [A] Unit (fun _=>.bool (p x)) (fun _=>True) (fun _=>[A])):Fn Tryz.prog W 261 [v,.func (.func g) #[] #[c]] [A] Unit (fun _=>.bool (xs.any p)) (fun _=>True) (fun _=>[A]):=by
 refine Fn.intro (N:=9) func261 rfl ntmps261 rfl fun F=>?_
 show ax _ _ _ _ _ _ [A,F]
 refine J 9 ?_
 refine .c call296 rfl (Am hr hl hg hf) fun _ _=>?_
 refine J 5 ?_
 refine .aC rfl rfl fun w s=>⟨(),?_,trivial,ar .auto s⟩
 rw[← ja xs 0]
end Go.SLYtefdijgllbkmfaaGreat
