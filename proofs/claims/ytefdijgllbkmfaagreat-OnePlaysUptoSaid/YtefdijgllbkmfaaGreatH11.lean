/- Walks of functions, and what they compute. Conditions: none, this text proves no statement. -/
import Derived.Test.YtefdijgllbkmfaaGreatH06
import Derived.Test.YtefdijgllbkmfaaGreatProg
import Derived.Test.YtefdijgllbkmfaaGreatH10
import Derived.Test.YtefdijgllbkmfaaGreatH03
import Derived.KernelRfl
set_option maxRecDepth 20000
set_option maxHeartbeats 4000000
namespace Go.SLYtefdijgllbkmfaaGreat
open Go Go.RowKit Go.Proofs Go.Proofs.Tryz
attribute [local irreducible] ax aQ bu cj bQ Y
theorem u4{W:World}{b:Nat}{l:List (Bool×Int)}{h:Int}(hl:iX l)(h0:0≤h):Fn Tryz.prog W 202 [ptr b,.int .u64 h] [lC b l] Unit (fun _=>Kz (bm l h)) (fun _=>True) (fun _=>[lC b l]):=by
 refine Fn.intro (N:=50) func202 rfl ntmps202 rfl fun F=>?_
 show ax _ _ _ _ _ _ [lC b l,F]
 refine J 13 ?_
 refine .g (.dJ (Y.rem rfl rfl (by omega)) (xA h0)) ?_
 refine JD 4 (fun h13=>?_) fun h13=>?_
 ·refine J 8 ?_
  refine .eo rfl rfl rfl fun w s=>⟨(),?_,trivial,ar .auto s⟩
  rw[tV h13];rfl
 ·refine J 4 ?_
  refine .o1 (C:=lC b l) .auto rfl ?_
  rintro v -
  obtain⟨hl1,hl2⟩:=hl
  have hm:h % 65536<65536:=by omega
  have ho:(hh:hN h<l.length)→l[hN h]?=some (jN l (hN h)):=getD_some
  refine J 1 ?_
  refine .p (.dJ (Y.rem rfl rfl (by omega)) (xA h0)) ?_
  refine .p (.gy underlying38 underlying3 rfl (by omega)) ?_
  refine .p (.dJ (Y.sub rfl rfl (by omega)) (GG h13)) ?_
  refine J 14 ?_
  apply aQ.ga 10 35 25 [25,26,27,28,29,30,31,32,33,34,35] rfl
  ·intro h25
   have hlt:hN h<l.length:=by omega
   refine J 5 ?_
   refine .g (.ig (hN h) underlying188 sizeOf255 rfl rfl Rd.s rfl hlt) ?_
   refine J 1 ?_
   refine .g (.ld rfl (Cell.za Rd.s (ho (by omega)) (by rfl))) ?_
   exact JS 3
  ·intro h25
   exact JS 11
  refine J 1 ?_
  apply aQ.gj 12 48 36 [36,37,38,39,40,41,42,43,44,45,46,47,48] rfl
  ·intro h36
   simp only[Bool.or_eq_false_iff,decide_eq_false_iff_not] at h36
   have hlt:hN h<l.length:=by omega
   have hob:=hl2 _ (List.mem_of_getElem? (ho hlt))
   refine J 5 ?_
   refine .g (.ig (hN h) underlying188 sizeOf255 rfl rfl Rd.s rfl hlt) ?_
   refine .g (.la rfl (Cells.rd Rd.s (ho (by omega)))) ?_
   refine J 1 ?_
   refine .cg call157 rfl (qL (o:=jN l (hN h)) (n:=hN h) (by omega) (by omega)) fun _ _=>?_
   exact JS 4
  ·intro h36
   exact JS 13
  refine JD 2 (fun h48=>?_) fun h48=>?_
  ·refine J 8 ?_
   refine .eo rfl rfl rfl fun w s=>⟨(),?_,trivial,ar .auto s⟩
   rw[find_eq h13,if_pos (by simpa using h48)];rfl
  ·refine J 10 ?_
   refine .eo rfl rfl rfl fun w s=>⟨(),?_,trivial,ar .auto s⟩
   rw[find_eq h13,if_neg (by simpa using h48)];rfl
theorem C2{W:World}{b:Nat}{l:List (Bool×Int)}{h:Int}(hl:iX l)(h0:0≤h):Fn Tryz.prog W 159 [ptr b,.int .u64 h] [lC b l] Int (fun e=>.int .i64 e) (fun _=>True) (fun _=>[lC b (slotFreed l h)]):=by
 refine Fn.intro (N:=22) func159 rfl ntmps159 rfl fun F=>?_
 show ax _ _ _ _ _ _ [lC b l,F]
 refine J 9 ?_
 refine .c call202 rfl (u4 hl h0) fun _ _=>?_
 refine JD 14 (fun h14=>?_) fun h14=>?_
 ·refine J 7 ?_
  rw[zt (show bm l h=none from by cases e:bm l h with
   | none=>rfl
   | some n=>rw[e] at h14;cases h14)]
  refine .aC rfl rfl fun w s=>⟨3,?_,trivial,ar .auto s⟩
  rfl
 ·refine J 4 ?_
  refine .o1 (C:=lC b l) .auto rfl ?_
  rintro v -
  obtain⟨n,hn⟩:∃ n,bm l h=some n:=by cases e:bm l h with
   | none=>rw[e] at h14;cases h14
   | some n=>exact⟨n,rfl⟩
  obtain⟨hlt, -⟩:=vK hn
  have ho:l[n]?=some (jN l n):=getD_some hlt
  obtain⟨u,tk,hut⟩:∃ u tk,jN l n=(u,tk):=⟨_,_,rfl⟩
  rw[hut] at ho
  refine J 5 ?_
  refine .p (.ig n underlying188 sizeOf255 rfl (by rw[hn];rfl) Rd.s rfl hlt) ?_
  refine J 1 ?_
  refine .aw rfl (af.gL (x':=(false,tk)) rfl rfl sizeOf4 rfl ho (by decide) rfl .auto) ?_
  rintro _ _ ⟨rfl,rfl⟩
  refine J 8 ?_
  rw[rY hn,hut]
  refine .aC rfl rfl fun w s=>⟨0,?_,trivial,ar .auto s⟩
  rfl
theorem Le{W:World}{A:aa}{x:dh}{c:Nat}{who:Int}:Fn Tryz.prog W 294 [.agg (cN x).toArray,ptr c] [seps [arr c 0 [.int .i64 who],A]] Unit (fun _=>.bool (decide (x.who=who))) (fun _=>True) (fun _=>[seps [arr c 0 [.int .i64 who],A]]):=by
 refine Fn.intro (N:=8) func294 rfl ntmps294 rfl fun F=>?_
 show ax _ _ _ _ _ _ [seps [arr c 0 [.int .i64 who],A],F]
 refine .fY .auto ?_
 refine J 2 ?_
 refine .aw rfl (af.box rfl rfl rfl) ?_
 rintro _ _ ⟨b2,rfl,rfl⟩
 exact JR 13 ()
theorem wT{W:World}{A:aa}{b:Nat}{u:Value}{cs:List Value}{l:List dh}{who:Int}(hr:Rd W [A] cN 2 u l)(hl:l.length≤1000000):Fn Tryz.prog W 258 [ptr b,.int .i64 who] [arr b 0 (u::cs),A] Unit (fun _=>.bool (lB l who)) (fun _=>True) (fun _=>[arr b 0 (u::cs),A]):=by
 refine Fn.intro (N:=11) func258 rfl ntmps258 rfl fun F=>?_
 show ax _ _ _ _ _ _ [arr b 0 (u::cs),A,F]
 refine J 2 ?_
 refine .aw rfl (af.box rfl rfl rfl) ?_
 rintro _ _ ⟨b3,rfl,rfl⟩
 refine J 9 ?_
 refine .p (.makeFunc rfl rfl) ?_
 refine .c call293 rfl (tF (A:=seps [arr b3 0 [.int .i64 who],A]) (p:=fun w=>decide (w.who=who)) (Rd.lE (Rd.at hr (.there .here))) (by omega) call294 (fun x _=>Le)) fun _ _=>?_
 refine .fY .auto ?_
 exact JR 4 ()
theorem FV{W:World}{A:aa}{x:Value×dB}{c:Nat}{who:Int}(hr:Rd W [A] cN 2 x.1 x.2.wait)(hl:x.2.wait.length≤1000000):Fn Tryz.prog W 257 [.agg (lD x).toArray,ptr c] [seps [arr c 0 [.int .i64 who],A]] Unit (fun _=>.bool (lB x.2.wait who)) (fun _=>True) (fun _=>[seps [arr c 0 [.int .i64 who],A]]):=by
 refine Fn.intro (N:=7) func257 rfl ntmps257 rfl fun F=>?_
 show ax _ _ _ _ _ _ [seps [arr c 0 [.int .i64 who],A],F]
 refine .fY .auto ?_
 refine J 2 ?_
 refine .aw rfl (af.box rfl rfl rfl) ?_
 rintro _ _ ⟨b2,rfl,rfl⟩
 refine .mem (H':=[arr b2 0 (lD x),arr c 0 [.int .i64 who],A,F]) (fun w s=>s) ?_
 refine J 7 ?_
 refine .c call258 rfl (wT hr hl) fun _ _=>?_
 exact JR 4 ()
theorem FW{W:World}{A:aa}{x:Value×List dh}{c:Nat}{who:Int}(hr:Rd W [A] cN 2 x.1 x.2)(hl:x.2.length≤1000000):Fn Tryz.prog W 260 [.agg (cn x).toArray,ptr c] [seps [arr c 0 [.int .i64 who],A]] Unit (fun _=>.bool (lB x.2 who)) (fun _=>True) (fun _=>[seps [arr c 0 [.int .i64 who],A]]):=by
 refine Fn.intro (N:=6) func260 rfl ntmps260 rfl fun F=>?_
 show ax _ _ _ _ _ _ [seps [arr c 0 [.int .i64 who],A],F]
 refine .fY .auto ?_
 refine J 2 ?_
 refine .aw rfl (af.box rfl rfl rfl) ?_
 rintro _ _ ⟨b2,rfl,rfl⟩
 refine .mem (H':=[arr b2 0 (cn x),arr c 0 [.int .i64 who],A,F]) (fun w s=>s) ?_
 refine J 6 ?_
 refine .c call258 rfl (wT hr hl) fun _ _=>?_
 exact JR 4 ()
theorem FX{W:World}{A:aa}{x:Value×jr}{c:Nat}{who:Int}(hr:Rd W [A] cN 2 x.1 x.2.wait)(hl:x.2.wait.length≤1000000):Fn Tryz.prog W 262 [.agg (lN x).toArray,ptr c] [seps [arr c 0 [.int .i64 who],A]] Unit (fun _=>.bool (lB x.2.wait who)) (fun _=>True) (fun _=>[seps [arr c 0 [.int .i64 who],A]]):=by
 refine Fn.intro (N:=7) func262 rfl ntmps262 rfl fun F=>?_
 show ax _ _ _ _ _ _ [seps [arr c 0 [.int .i64 who],A],F]
 refine .fY .auto ?_
 refine J 2 ?_
 refine .aw rfl (af.box rfl rfl rfl) ?_
 rintro _ _ ⟨b2,rfl,rfl⟩
 refine .mem (H':=[arr b2 0 (lN x),arr c 0 [.int .i64 who],A,F]) (fun w s=>s) ?_
 refine J 7 ?_
 refine .c call258 rfl (wT hr hl) fun _ _=>?_
 exact JR 4 ()
theorem nD{W:World}{b:Nat}{g:Gates}{who:Int}{vm vc vs:Value}(hg:gM g):Fn Tryz.prog W 208 [ptr b,.int .i64 who] [arr b 0 [vm,vc,vs],ep vm g.aF,ik vc g.bn,fy vs g.cf] Unit (fun _=>.bool (g.waits who)) (fun _=>True) (fun _=>[arr b 0 [vm,vc,vs],ep vm g.aF,ik vc g.bn,fy vs g.cf]):=by
 refine Fn.intro (N:=27) func208 rfl ntmps208 rfl fun F=>?_
 show ax _ _ _ _ _ _ [arr b 0 [vm,vc,vs],ep vm g.aF,ik vc g.bn,fy vs g.cf,F]
 refine .o1 (C:=ep vm g.aF) .auto rfl ?_
 rintro xm hxm
 refine .o1 (C:=ik vc g.bn) .auto rfl ?_
 rintro xc hxc
 refine .o1 (C:=fy vs g.cf) .auto rfl ?_
 rintro xs hxs
 have hlm:=kS hxm
 have hlc:=kS hxc
 have hls:=kS hxs
 have hm2:∀ x∈xm,x.2.wait.length≤1000000:=fun x hx=>hg.mw _ (hxm ▸ List.mem_map_of_mem hx)
 have hc2:∀ x∈xc,x.2.length≤1000000:=fun x hx=>hg.cw _ (hxc ▸ List.mem_map_of_mem hx)
 have hs2:∀ x∈xs,x.2.wait.length≤1000000:=fun x hx=>hg.sw _ (hxs ▸ List.mem_map_of_mem hx)
 obtain⟨hg1,hg2,hg3, -, -, -⟩:=hg
 refine J 2 ?_
 refine .aw rfl (af.box rfl rfl rfl) ?_
 rintro _ _ ⟨b3,rfl,rfl⟩
 refine J 9 ?_
 refine .p (.makeFunc rfl rfl) ?_
 refine .c call256 rfl (tI (A:=seps [arr b3 0 [.int .i64 who],seps [sl lD 3 vm xm,aT (fun x=>sl cN 2 x.1 x.2.wait) xm]]) (p:=fun x=>lB x.2.wait who) (Rd.lE (Rd.at (Rd.lE (Rd.sl .here)) (.there .here))) (by omega) call257 (fun x hx=>FV (Rd.lE (vL (f:=fun x:Value×dB=>x.1) (g:=fun x=>x.2.wait) hx (.there .here))) (hm2 x hx))) fun _ _=>?_
 refine .fY .auto ?_
 refine .fY .auto ?_
 refine J 1 ?_
 apply aQ.gj 7 18 11 [11,12,13,14,15,16,17,18] rfl
 ·intro h11
  refine J 4 ?_
  refine .g (.makeFunc rfl rfl) ?_
  refine .cg call259 rfl (tJ (A:=seps [arr b3 0 [.int .i64 who],seps [sl cn 1 vc xc,aT (fun x=>sl cN 2 x.1 x.2) xc]]) (p:=fun x=>lB x.2 who) (Rd.lE (Rd.at (Rd.lE (Rd.sl .here)) (.there .here))) (by omega) call260 (fun x hx=>FW (Rd.lE (vL (f:=fun x:Value×List dh=>x.1) (g:=fun x=>x.2) hx (.there .here))) (hc2 x hx))) fun _ _=>?_
  refine .fY .auto ?_
  refine .fY .auto ?_
  exact JS 2
 ·intro h11
  exact JS 8
 refine J 1 ?_
 apply aQ.gj 7 26 19 [19,20,21,22,23,24,25,26] rfl
 ·intro h19
  refine J 4 ?_
  refine .g (.makeFunc rfl rfl) ?_
  refine .cg call261 rfl (tK (A:=seps [arr b3 0 [.int .i64 who],seps [sl lN 2 vs xs,aT (fun x=>sl cN 2 x.1 x.2.wait) xs]]) (p:=fun x=>lB x.2.wait who) (Rd.lE (Rd.at (Rd.lE (Rd.sl .here)) (.there .here))) (by omega) call262 (fun x hx=>FX (Rd.lE (vL (f:=fun x:Value×jr=>x.1) (g:=fun x=>x.2.wait) hx (.there .here))) (hs2 x hx))) fun _ _=>?_
  refine .fY .auto ?_
  refine .fY .auto ?_
  exact JS 2
 ·intro h19
  exact JS 8
 refine J 4 ?_
 refine .aC rfl rfl fun w s=>⟨(),?_,trivial,ar .auto s⟩
 exact Gz (D9 hxm hxc hxs)
theorem lq{W:World}{b:Nat}{l:List (dB)}{m:Int}{vm vc vs:Value}:Fn Tryz.prog W 207 [ptr b,.int .i64 m] [arr b 0 [vm,vc,vs],ep vm l] Unit (fun _=>Im vm l.length 3 m) (fun _=>True) (fun _=>[arr b 0 [vm,vc,vs],ep vm l]):=by
 refine Fn.intro (N:=26) func207 rfl ntmps207 rfl fun F=>?_
 show ax _ _ _ _ _ _ [arr b 0 [vm,vc,vs],ep vm l,F]
 refine .o1 (C:=ep vm l) .auto rfl ?_
 rintro xs hxs
 have hl:=kS hxs
 refine J 15 ?_
 apply aQ.ga 8 19 11 [11,12,13,14,15,16,17,18,19] rfl
 ·intro h11
  exact JS 9
 ·intro h11
  exact JS 9
 refine JD 2 (fun h19=>?_) fun h19=>?_
 ·simp only[Bool.or_eq_true,decide_eq_true_eq] at h19
  refine J 7 ?_
  refine .aC rfl rfl fun w s=>⟨(),?_,trivial,ar .auto s⟩
  rw[qZ (by omega)]
 ·simp only[Bool.or_eq_false_iff,decide_eq_false_iff_not] at h19
  refine J 9 ?_
  refine .p (.ix m.toNat rfl rfl (by omega) (by omega)) ?_
  refine J 4 ?_
  refine .aC rfl rfl fun w s=>⟨(),?_,trivial,ar .auto s⟩
  rw[fk (by omega)]
theorem u6{W:World}{b:Nat}{l:List (List dh)}{m:Int}{vm vc vs:Value}:Fn Tryz.prog W 169 [ptr b,.int .i64 m] [arr b 0 [vm,vc,vs],ik vc l] Unit (fun _=>Im vc l.length 1 m) (fun _=>True) (fun _=>[arr b 0 [vm,vc,vs],ik vc l]):=by
 refine Fn.intro (N:=26) func169 rfl ntmps169 rfl fun F=>?_
 show ax _ _ _ _ _ _ [arr b 0 [vm,vc,vs],ik vc l,F]
 refine .o1 (C:=ik vc l) .auto rfl ?_
 rintro xs hxs
 have hl:=kS hxs
 refine J 15 ?_
 apply aQ.ga 8 19 11 [11,12,13,14,15,16,17,18,19] rfl
 ·intro h11
  exact JS 9
 ·intro h11
  exact JS 9
 refine JD 2 (fun h19=>?_) fun h19=>?_
 ·simp only[Bool.or_eq_true,decide_eq_true_eq] at h19
  refine J 7 ?_
  refine .aC rfl rfl fun w s=>⟨(),?_,trivial,ar .auto s⟩
  rw[qZ (by omega)]
 ·simp only[Bool.or_eq_false_iff,decide_eq_false_iff_not] at h19
  refine J 9 ?_
  refine .p (.ix m.toNat rfl rfl (by omega) (by omega)) ?_
  refine J 4 ?_
  refine .aC rfl rfl fun w s=>⟨(),?_,trivial,ar .auto s⟩
  rw[fk (by omega)]
theorem yJ{W:World}{b:Nat}{l:List (jr)}{m:Int}{vm vc vs:Value}:Fn Tryz.prog W 214 [ptr b,.int .i64 m] [arr b 0 [vm,vc,vs],fy vs l] Unit (fun _=>Im vs l.length 2 m) (fun _=>True) (fun _=>[arr b 0 [vm,vc,vs],fy vs l]):=by
 refine Fn.intro (N:=26) func214 rfl ntmps214 rfl fun F=>?_
 show ax _ _ _ _ _ _ [arr b 0 [vm,vc,vs],fy vs l,F]
 refine .o1 (C:=fy vs l) .auto rfl ?_
 rintro xs hxs
 have hl:=kS hxs
 refine J 15 ?_
 apply aQ.ga 8 19 11 [11,12,13,14,15,16,17,18,19] rfl
 ·intro h11
  exact JS 9
 ·intro h11
  exact JS 9
 refine JD 2 (fun h19=>?_) fun h19=>?_
 ·simp only[Bool.or_eq_true,decide_eq_true_eq] at h19
  refine J 7 ?_
  refine .aC rfl rfl fun w s=>⟨(),?_,trivial,ar .auto s⟩
  rw[qZ (by omega)]
 ·simp only[Bool.or_eq_false_iff,decide_eq_false_iff_not] at h19
  refine J 9 ?_
  refine .p (.ix m.toNat rfl rfl (by omega) (by omega)) ?_
  refine J 4 ?_
  refine .aC rfl rfl fun w s=>⟨(),?_,trivial,ar .auto s⟩
  rw[fk (by omega)]
theorem wU{W:World}{b o:Nat}{l:List dh}{x:dh}(hl:l.length≤100000000):Fn Tryz.prog W 211 [.pointer (some ⟨b,o,none⟩),.agg (cN x).toArray] [iB b o l] Unit (fun _=>.tuple #[]) (fun _=>True) (fun _=>[iB b o (l++[x])]):=by
 refine Fn.intro (N:=14) func211 rfl ntmps211 rfl fun F=>?_
 show ax _ _ _ _ _ _ [iB b o l,F]
 refine .o1 (C:=iB b o l) .auto rfl ?_
 rintro v -
 refine J 2 ?_
 refine .aw rfl (af.box rfl rfl rfl) ?_
 rintro _ _ ⟨b3,rfl,rfl⟩
 refine .mem (H':=[arr b3 0 (cN x),arr b o [v],sl cN 2 v l,F]) (fun w s=>s) ?_
 refine J 2 ?_
 refine .draw [arr b o [v]] [0,0,0,0,0,1,2,2,1,1,3] rfl (by kernel_rfl) ?_
 refine J 6 ?_
 refine .d2 rfl Kept.auto (af.gQ 274 rfl rfl (by kernel_rfl)) (by rintro _ _ ⟨b10,rfl,rfl⟩;exact Kept.auto) ?_
 rintro _ _ ⟨b10,rfl,rfl⟩
 refine .mem (H':=[arr b10 0 (cN x),arr b3 0 (cN x),arr b o [v],sl cN 2 v l,F]) (fun w s=>s) ?_
 refine .d2 rfl Kept.auto (af.fi (enc:=cN) (k:=2) x rfl underlying196 underlying196 typeInfo274 rfl rfl rfl (by decide) rfl rfl rfl .auto rfl .auto (by omega) rfl) (by rintro _ _ ⟨v11,rfl,rfl⟩;exact Kept.auto) ?_
 rintro _ _ ⟨v11,rfl,rfl⟩
 refine J 2 ?_
 refine .d3 rfl (af.nf sizeOf196 rfl rfl rfl) ?_
 rintro _ _ ⟨rfl,rfl⟩
 exact JR 1 ()
theorem te{W:World}{b o:Nat}{l:List dh}{c:Int}(hl:l.length≤1000000):Fn Tryz.prog W 170 [.pointer (some ⟨b,o,none⟩),.int .i64 c] [iB b o l] Unit (fun _=>.tuple #[.agg (cN (aJ l c).1).toArray,.bool (aJ l c).2.1]) (fun _=>True) (fun _=>[iB b o (aJ l c).2.2]):=by
 refine Fn.intro (N:=43) func170 rfl ntmps170 rfl fun F=>?_
 show ax _ _ _ _ _ _ [iB b o l,F]
 refine .o1 (C:=iB b o l) .auto rfl ?_
 rintro v -
 refine J 2 ?_
 refine .aw rfl (af.alloc rfl zeroValue274 rfl) ?_
 rintro _ _ ⟨b4,rfl,rfl⟩
 refine JD 20 (fun h15=>?_) fun h15=>?_
 ·refine J 2 ?_
  refine .p (.qO ([(.int .i64 0),(.int .i64 0)]) (by kernel_rfl)) ?_
  refine J 6 ?_
  rw[vN (show l.length=0 by omega)]
  refine .gT rfl rfl isAgg274 (by exact sizeOf274) Cells.a rfl fun w s=>⟨(),?_,trivial,ar .auto s⟩
  rfl
 ·refine J 4 ?_
  have hpk:pick c l.length<l.length:=fc (by omega)
  refine J 2 ?_
  refine .p (.rem rfl rfl (by omega)) ?_
  refine J 1 ?_
  refine .p (.add rfl rfl (AP (by omega) (by omega))) ?_
  refine J 1 ?_
  refine .p (.dJ (Y.rem rfl rfl (by omega)) (rU (by omega))) ?_
  refine J 10 ?_
  refine .p (.ig (pick c l.length) underlying196 sizeOf274 rfl rfl Rd.s rfl hpk) ?_
  refine .p (.la rfl (Cells.rd Rd.s (getD_some (d:=⟨0,0⟩) hpk))) ?_
  refine .aw rfl (af.alloc rfl zeroValue274 rfl) ?_
  rintro _ _ ⟨b8,rfl,rfl⟩
  refine J 13 ?_
  refine .c call212 rfl (HT hpk (by omega)) fun u39 _=>?_
  refine J 2 ?_
  refine .aw rfl (af.nf sizeOf196 rfl rfl rfl) ?_
  rintro _ _ ⟨rfl,rfl⟩
  refine J 10 ?_
  rw[qY (show ¬l.length=0 by omega)]
  refine .gT rfl rfl isAgg274 (by exact sizeOf274) Cells.a rfl fun w s=>⟨(),?_,trivial,ar .auto s⟩
  rfl
theorem tf{W:World}{b o:Nat}{m:dB}{who:Int}:Fn Tryz.prog W 209 [.pointer (some ⟨b,o,none⟩),.int .i64 who] [ey b o m] Unit (fun _=>.bool (m.is who)) (fun _=>True) (fun _=>[ey b o m]):=by
 refine Fn.intro (N:=17) func209 rfl ntmps209 rfl fun F=>?_
 show ax _ _ _ _ _ _ [ey b o m,F]
 refine .o1 (C:=ey b o m) .auto rfl ?_
 rintro u -
 refine J 12 ?_
 apply aQ.gI 7 16 9 [9,10,11,12,13,14,15,16] rfl
 ·intro h9
  exact JS 8
 ·intro h9
  exact JS 8
 exact JR 4 ()
theorem tg{W:World}{b o:Nat}{m:dB}{who:Int}(hl:m.wait.length≤100000000):Fn Tryz.prog W 171 [.pointer (some ⟨b,o,none⟩),.int .i64 who] [ey b o m] Unit (fun _=>.bool (m.lock who).1) (fun _=>True) (fun _=>[ey b o (m.lock who).2]):=by
 refine Fn.intro (N:=22) func171 rfl ntmps171 rfl fun F=>?_
 show ax _ _ _ _ _ _ [ey b o m,F]
 refine .o1 (C:=ey b o m) .auto rfl ?_
 rintro u -
 refine JD 14 (fun h8=>?_) fun h8=>?_
 ·refine J 6 ?_
  refine .p (.jt (fun v1=>[v1,(.int .i64 0)]) rfl (by kernel_rfl)) ?_
  refine .fr .auto (oe (b:=b) (o:=o) (u:=u)) ?_
  refine .c call211 rfl (wU (x:=⟨who,0⟩) hl) fun _ _=>?_
  refine J 9 ?_
  rw[vO h8]
  refine .to (A:=ey b o {m with wait:=m.wait++[⟨who,0⟩] }) (Bs:=[iB b o (m.wait++[⟨who,0⟩]),arr b (o+1) [.bool m.held,.int .i64 m.owner]]) .auto (AO (m:={m with wait:=m.wait++[⟨who,0⟩] })) ?_
  exact JR 0 ()
 ·refine J 9 ?_
  refine .aw rfl (af.Ij sizeOf4 rfl rfl rfl rfl) ?_
  rintro _ _ ⟨rfl,rfl⟩
  refine J 2 ?_
  refine .aw rfl (af.Ij sizeOf3 rfl rfl rfl rfl) ?_
  rintro _ _ ⟨rfl,rfl⟩
  refine J 8 ?_
  rw[vP h8]
  exact JR 0 ()
theorem py{W:World}{b o:Nat}{m:dB}{c:Int}(hl:m.wait.length≤1000000):Fn Tryz.prog W 210 [.pointer (some ⟨b,o,none⟩),.int .i64 c] [ey b o m] Unit (fun _=>.tuple #[.int .i64 (m.unlock c).1,.bool (m.unlock c).2.1]) (fun _=>True) (fun _=>[ey b o (m.unlock c).2.2]):=by
 refine Fn.intro (N:=28) func210 rfl ntmps210 rfl fun F=>?_
 show ax _ _ _ _ _ _ [ey b o m,F]
 refine .o1 (C:=ey b o m) .auto rfl ?_
 rintro u -
 refine J 12 ?_
 refine .fr .auto (oe (b:=b) (o:=o) (u:=u)) ?_
 refine .c call170 rfl (te hl) fun _ _=>?_
 refine J 3 ?_
 refine .aw rfl (af.alloc rfl zeroValue274 rfl) ?_
 rintro _ _ ⟨b6,rfl,rfl⟩
 refine J 5 ?_
 refine .draw [arr b6 0 (cN (aJ m.wait c).1)] [1,0,1,0,0,1,1,2,1,1,3] rfl (by kernel_rfl) ?_
 refine J 7 ?_
 refine .d2 rfl Kept.auto (af.Ik sizeOf4 rfl rfl rfl rfl) (by rintro _ _ ⟨rfl,rfl⟩;exact Kept.auto) ?_
 rintro _ _ ⟨rfl,rfl⟩
 refine J 2 ?_
 refine .d3 rfl (af.Ij (i:=1) sizeOf3 rfl rfl rfl rfl) ?_
 rintro _ _ ⟨rfl,rfl⟩
 refine J 12 ?_
 refine .to (A:=ey b o (m.unlock c).2.2) (Bs:=[iB b o (aJ m.wait c).2.2,arr b (o+1) [.bool (aJ m.wait c).2.1,.int .i64 (aJ m.wait c).1.who]]) .auto (AO (m:=(m.unlock c).2.2)) ?_
 exact JR 0 ()
end Go.SLYtefdijgllbkmfaaGreat
namespace Go.SLYtefdijgllbkmfaaGreat
open Go Go.RowKit Go.Proofs Go.Proofs.Tryz
attribute [local irreducible] ax aQ bu cj bQ Y
theorem BK{W:World}{b:Nat}{ps:List (Option Nat)}{s:Spc}{n:Int}:Fn Tryz.prog W 70 [ptr b,.int .i64 n] [dt b ps s] Unit (fun _=>eJ (zz ps n)) (fun _=>True) (fun _=>[dt b ps s]):=by
 refine Fn.intro (N:=21) func70 rfl ntmps70 rfl fun F=>?_
 show ax _ _ _ _ _ _ [dt b ps s,F]
 refine .jq (C:=dt b ps s) .auto rfl ?_
 rintro fv sv pv bt vm bg vt bk bw vr -
 refine J 15 ?_
 apply aQ.ga 3 14 11 [11,12,13,14] rfl
 ·intro h11
  exact JS 4
 ·intro h11
  exact JS 4
 refine JD 2 (fun h14=>?_) fun h14=>?_
 ·simp only[Bool.or_eq_true,decide_eq_true_eq] at h14
  refine J 7 ?_
  refine .aC rfl rfl fun w s=>⟨(),?_,trivial,ar .auto s⟩
  rw[zz,if_neg (by omega)];rfl
 ·simp only[Bool.or_eq_false_iff,decide_eq_false_iff_not] at h14
  refine J 8 ?_
  refine .p (.aD n.toNat underlying123 sizeOf122 rfl rfl (by omega) (by omega)) ?_
  refine .p (.ld rfl (Cell.a (by rw[Nat.mul_one];exact eQ (by omega)))) ?_
  refine J 4 ?_
  refine .aC rfl rfl fun w s=>⟨(),?_,trivial,ar .auto s⟩
  rw[zz,if_pos (by omega)]
theorem mN{W:World}{b p:Nat}{ps:List (Option Nat)}{s:Spc}{n:Nat}{t:bo}(hp:ps[n]?=some (some p))(ht:s.thr[n]?=some (some t))(hl:s.thr.length=16)(hpl:ps.length=16)(hT:iX s.table)(hh:0≤t.handle):Fn Tryz.prog W 113 [ptr b,.int .i64 (n:Int)] [dt b ps s] Unit (fun _=>.tuple #[]) (fun _=>True) (fun _=>[dt b (ps.set n none) (s.free n)]):=by
 refine Fn.intro (N:=23) func113 rfl ntmps113 rfl fun F=>?_
 show ax _ _ _ _ _ _ [dt b ps s,F]
 refine .jq (C:=dt b ps s) .auto rfl ?_
 rintro fv sv pv bt vm bg vt bk bw vr -
 have hn16:n<16:=hl ▸ (List.getElem?_eq_some_iff.1 ht).1
 refine .fr .auto (cq hp ht) ?_
 refine J 1 ?_
 refine .draw [arr b 0 (fM fv sv pv s.dK bt ps vm bg vt bk bw vr),arr p 0 (bz t)] [1,1,1,1,1,1,1,1,1,1,1,1,1,3] rfl (by kernel_rfl) ?_
 refine J 8 ?_
 refine .p (.aD n underlying123 sizeOf122 rfl rfl rfl hn16) ?_
 refine .p (.ld rfl (Cell.a (by rw[Nat.mul_one,eQ hn16,eL hp]))) ?_
 refine J 3 ?_
 refine .c call159 rfl (C2 hT hh) fun e _=>?_
 refine J 7 ?_
 refine .p (.aD n underlying123 sizeOf122 rfl rfl rfl hn16) ?_
 refine .aw rfl (af.st sizeOf122 rfl rfl rfl (Nat.blt_eq.mpr (by show 9+n * 1<31;omega))) ?_
 rintro _ _ ⟨rfl,rfl⟩
 rw[Nat.mul_one,show Value.pointer none=eJ none from rfl,xx hn16 hpl]
 refine J 1 ?_
 rw[show s.free n = {s with table:=slotFreed s.table t.handle,thr:=s.thr.set n none } from by unfold Spc.free;rw[cW ht]]
 exact JR 0 ()
theorem jo{W:World}{bd b p:Nat}{ps:List (Option Nat)}{d:Dng}{t:bo}(hp:ps[d.n]?=some (some p))(ht:d.s.thr[d.n]?=some (some t)){x y e:Int}{fin:Bool}(hr:d.s.au.length≤1000000000):Fn Tryz.prog W 82 [ptr bd,.int .u64 x,.int .u64 y,.int .i64 e,.bool fin] [bB bd b p ps d] Unit (fun _=>.tuple #[]) (fun _=>True) (fun _=>[bB bd b p ps (d.tell x y e fin)]):=by
 refine Fn.intro (N:=42) func82 rfl ntmps82 rfl fun F=>?_
 show ax _ _ _ _ _ _ [bB bd b p ps d,F]
 refine .o2 (C:=bB bd b p ps d) .auto rfl ?_
 rintro vw ve -
 refine .jq (C:=dt b ps d.s) .auto rfl ?_
 rintro fv sv pv bt vm bg vt bk bw vr -
 refine .fr .auto (cq hp ht) ?_
 refine .draw [arr bd 0 (eA b p d vw ve),arr b 0 (fM fv sv pv d.s.dK bt ps vm bg vt bk bw vr),arr p 0 (bz t)] [0,0,0,0,0,0,0,0,0,0,0,1,1,1,1,1,1,1,1,1,1,1,1,1,1,1,1,1,2,2,1,1,3] rfl (by kernel_rfl) ?_
 refine J 27 ?_
 refine .p (.DI (fun v1 v2 v3 v4 v5 v6=>[v1,v2,v3,v4,v5,v6]) rfl rfl rfl rfl rfl rfl (by kernel_rfl)) ?_
 refine .d2 rfl Kept.auto (af.gQ 101 rfl rfl (by kernel_rfl)) (by rintro _ _ ⟨b38,rfl,rfl⟩;exact Kept.auto) ?_
 rintro _ _ ⟨b38,rfl,rfl⟩
 refine .d2 rfl Kept.auto (af.fi (enc:=dr) (k:=6) (⟨t.handle,d.i.op,x,y,e,fin⟩:Rec) rfl underlying49 underlying49 typeInfo101 rfl rfl rfl (by decide) rfl rfl rfl .auto rfl .auto (by omega) rfl) (by rintro _ _ ⟨v39,rfl,rfl⟩;exact Kept.auto) ?_
 rintro _ _ ⟨v39,rfl,rfl⟩
 refine J 2 ?_
 refine .d3 rfl (af.pz sizeOf49 rfl rfl rfl) ?_
 rintro _ _ ⟨rfl,rfl⟩
 rw[ox]
 refine J 1 ?_
 refine .to (A:=aE ps d.s.thr) (Bs:=[arr p 0 (bz t),aE (ps.set d.n none) (d.s.thr.set d.n none)]) .auto (cz hp ht) ?_
 rw[show d.tell x y e fin = {d with s:=d.s.tell ⟨t.handle,d.i.op,x,y,e,fin⟩ } from by unfold Dng.tell;rw[ck ht]]
 exact JR 0 ()
theorem cR{W:World}{bd b p:Nat}{ps:List (Option Nat)}{d:Dng}{t:bo}(hp:ps[d.n]?=some (some p))(ht:d.s.thr[d.n]?=some (some t)){x y e:Int}(hr:d.s.au.length≤1000000000)(he:0≤e∧e≤11)(hl:t.aq.length=8):Fn Tryz.prog W 117 [ptr bd,.int .u64 x,.int .u64 y,.int .i64 e] [bB bd b p ps d] Unit (fun _=>.tuple #[]) (fun _=>True) (fun _=>[bB bd b p ps (d.pass x y e)]):=by
 refine Fn.intro (N:=23) func117 rfl ntmps117 rfl fun F=>?_
 show ax _ _ _ _ _ _ [bB bd b p ps d,F]
 refine J 6 ?_
 refine .c call82 rfl (jo hp ht hr) fun _ _=>?_
 refine J 3 ?_
 have ht2:(d.tell x y e true).s.thr[d.n]?=some (some t):=ht
 refine .o2 (C:=bB bd b p ps (d.tell x y e true)) .auto rfl ?_
 rintro vw ve -
 refine .jq (C:=dt b ps (d.tell x y e true).s) .auto rfl ?_
 rintro fv sv pv bt vm bg vt bk bw vr -
 refine .fr .auto (cq hp ht2) ?_
 refine J 3 ?_
 refine .p (.ld rfl (Cell.a (cs:=eA b p (d.tell x y e true) vw ve) rfl)) ?_
 refine J 1 ?_
 refine .p (.gh underlying28 underlying38 rfl (by omega)) ?_
 refine J 3 ?_
 refine .p (.aD 7 underlying39 sizeOf38 rfl rfl (by omega) (by omega)) ?_
 refine J 1 ?_
 rw[q3 (n:=7) e (by decide) hl]
 refine J 1 ?_
 refine .to (A:=aE ps (d.s.thr.set d.n (some (t.put 7 e)))) (Bs:=[arr p 0 (bz (t.put 7 e)),aE (ps.set d.n none) ((d.tell x y e true).s.thr.set d.n none)]) .auto (cY (List.getElem?_eq_some_iff.1 ht).1 hp) ?_
 rw[show d.pass x y e=(d.tell x y e true).aj (t.put 7 e) from by unfold Dng.pass;rw[ck ht]]
 exact JR 0 ()
theorem gF{W:World}{bd b p:Nat}{ps:List (Option Nat)}{d:Dng}{t:bo}(hp:ps[d.n]?=some (some p))(ht:d.s.thr[d.n]?=some (some t)){why into x y:Int}(hr:d.s.au.length≤1000000000):Fn Tryz.prog W 164 [ptr bd,.int .i64 why,.int .i64 into,.int .u64 x,.int .u64 y] [bB bd b p ps d] Unit (fun _=>.tuple #[]) (fun _=>True) (fun _=>[bB bd b p ps (d.block why into x y)]):=by
 refine Fn.intro (N:=43) func164 rfl ntmps164 rfl fun F=>?_
 show ax _ _ _ _ _ _ [bB bd b p ps d,F]
 refine J 5 ?_
 refine .c call82 rfl (jo hp ht hr) fun _ _=>?_
 refine J 3 ?_
 have ht2:(d.tell x y 0 false).s.thr[d.n]?=some (some t):=ht
 refine .o2 (C:=bB bd b p ps (d.tell x y 0 false)) .auto rfl ?_
 rintro vw ve -
 refine .jq (C:=dt b ps (d.tell x y 0 false).s) .auto rfl ?_
 rintro fv sv pv bt vm bg vt bk bw vr -
 refine .fr .auto (cq hp ht2) ?_
 refine .draw [arr bd 0 (eA b p (d.tell x y 0 false) vw ve)] [1,1,1,1,1,1,1,1,1,1,1,1,1,1,1,1,1,1,0,1,1,2,1,1,2,1,1,3] rfl (by kernel_rfl) ?_
 have ht2:(d.tell x y 0 false).s.thr[d.n]?=some (some t):=ht
 refine J 22 ?_
 rw[ov]
 refine J 3 ?_
 rw[Jd]
 refine J 3 ?_
 rw[se]
 refine J 9 ?_
 refine .to (A:=aE ps (d.s.thr.set d.n (some {t with why:=why,op:=d.i.op,into:=into }))) (Bs:=[arr p 0 (bz {t with why:=why,op:=d.i.op,into:=into }),aE (ps.set d.n none) ((d.tell x y 0 false).s.thr.set d.n none)]) .auto (cY (List.getElem?_eq_some_iff.1 ht).1 hp) ?_
 rw[show d.block why into x y = {(d.tell x y 0 false).aj {t with why:=why,op:=d.i.op,into:=into } with out:={d.out with bE:=true } } from by unfold Dng.block;rw[ck ht]]
 exact JR 0 ()
theorem FY{W:World}{b p:Nat}{ps:List (Option Nat)}{s:Spc}{n:Nat}{t:bo}(hp:ps[n]?=some (some p))(ht:s.thr[n]?=some (some t))(hn16:n<16)(hR:gR t){y:Int}:Fn Tryz.prog W 93 [ptr b,.int .i64 (n:Int),.int .u64 y] [dt b ps s] Unit (fun _=>.agg (dr (t.dL y)).toArray) (fun _=>True) (fun _=>[dt b ps (s.dn n y)]):=by
 refine Fn.intro (N:=50) func93 rfl ntmps93 rfl fun F=>?_
 show ax _ _ _ _ _ _ [dt b ps s,F]
 refine .jq (C:=dt b ps s) .auto rfl ?_
 rintro fv sv pv bt vm bg vt bk bw vr -
 refine .fr .auto (cq hp ht) ?_
 have hRl:=hR.l
 have hRi:=hR.i
 refine J 2 ?_
 refine .aw rfl (af.alloc rfl zeroValue101 rfl) ?_
 rintro _ _ ⟨b6,rfl,rfl⟩
 refine J 8 ?_
 refine .p (.aD n underlying123 sizeOf122 rfl rfl rfl hn16) ?_
 refine .p (.ld rfl (Cell.a (by rw[Nat.mul_one,eQ hn16,eL hp]))) ?_
 refine J 3 ?_
 refine .nJ (X:=Unit) [2,14,15,16,17,18,19,20,21,22,23,24,25,26,27,28] (fun _=>True) (fun _=>[(2,some (.int .u64 (if t.into = -1 then 0 else y)))]) (fun _=>[arr p 0 (bz (if t.into = -1 then t else t.put t.into y)),aE (ps.set n none) (s.thr.set n none),arr b6 0 [.int .u64 0,.int .i64 0,.int .u64 0,.int .u64 0,.int .i64 0,.bool false],arr b 0 (fM fv sv pv s.dK bt ps vm bg vt bk bw vr),xo fv s.dK.funcs,lC bt s.table,sl bF 1 vm s.mem,cX bg s.ag,nR vt s.bA,nS bk s.aO,m5 bw s.aA,sl dr 6 vr s.au,F]) ?_ ?_
 ·refine JD 9 (fun h18=>?_) fun h18=>?_
  ·refine .draw [arr p 0 (bz t)] [1,1,1,1,1,1,1,1,1,1,3] rfl (by kernel_rfl) ?_
   refine J 9 ?_
   refine .p (.aD t.into.toNat underlying39 sizeOf38 rfl rfl (by omega) (by omega)) ?_
   refine .d3 rfl (af.st sizeOf38 rfl rfl rfl (Nat.blt_eq.mpr (by show 2+t.into.toNat * 1<18;omega))) ?_
   rintro _ _ ⟨rfl,rfl⟩
   rw[jc y (by omega) (by omega) hRl]
   refine J 1 ?_
   refine .eY () .auto ?_ ?_ ?_
   ·trivial
   ·rw[if_neg (by omega)];exact⟨rfl,trivial⟩
   ·rw[if_neg (by omega)];exact fun w s=>aK.kept .auto w s
  ·refine J 3 ?_
   refine .eY () .auto ?_ ?_ ?_
   ·trivial
   ·rw[if_pos (by omega)];exact⟨rfl,trivial⟩
   ·rw[if_pos (by omega)];exact fun w s=>aK.kept .auto w s
 ·rintro⟨⟩ -
  obtain⟨y1,hy1⟩:∃ y1,y1=(if t.into = -1 then 0 else y):=⟨_,rfl⟩
  obtain⟨t1,h1⟩:∃ t1,t1=(if t.into = -1 then t else t.put t.into y):=⟨_,rfl⟩
  have h1l:t1.aq.length=8:=by
   rw[h1]
   split
   ·exact hRl
   ·rw[jF];exact hRl
  have h1h:t1.handle=t.handle∧t1.op=t.op:=by
   rw[h1]
   split <;> exact⟨rfl,rfl⟩
  rw[← hy1, ← h1]
  refine J 6 ?_
  refine .p (.aD 7 underlying39 sizeOf38 rfl rfl (by omega) (by omega)) ?_
  refine J 1 ?_
  rw[q3 (n:=7) 0 (by decide) h1l]
  refine J 9 ?_
  rw[ov]
  refine J 3 ?_
  rw[se]
  refine J 3 ?_
  refine .draw [arr p 0 (bz {t1.put 7 0 with why:=0,into := -1 })] [1,1,1,1,1,1,1,1,1,1,3] rfl (by kernel_rfl) ?_
  refine J 9 ?_
  refine .p (.BS (fun v1 v2 v3 v4=>[v1,v2,(.int .u64 0),v3,(.int .i64 0),v4]) rfl rfl rfl rfl (by kernel_rfl)) ?_
  refine .d3 rfl (af.tP (by exact sizeOf101) rfl rfl rfl (by rfl)) ?_
  rintro _ _ ⟨rfl,rfl⟩
  refine J 3 ?_
  refine .to (A:=aE ps (s.thr.set n (some ({t1.put 7 0 with why:=0,into := -1 })))) (Bs:=[arr p 0 (bz ({t1.put 7 0 with why:=0,into := -1 })),aE (ps.set n none) (s.thr.set n none)]) .auto (cY (List.getElem?_eq_some_iff.1 ht).1 hp) ?_
  rw[show s.dn n y=s.aj n {t1.put 7 0 with why:=0,into := -1 } from by unfold Spc.dn;rw[cW ht,AZ t1 h1]]
  refine .fw rfl rfl isAgg101 (by exact sizeOf101) Cells.a fun w s=>⟨(),?_,trivial,ar .auto s⟩
  show Ending.returned (Value.agg #[.int .u64 t1.handle,.int .i64 t1.op,.int .u64 0,.int .u64 y1,.int .i64 0,.bool true])=_;rw[h1h.1,h1h.2,hy1];rfl
theorem FZ{W:World}{bd b p q:Nat}{ps:List (Option Nat)}{d:Dng}{t:bo}{n:Nat}(hp:ps[n]?=some (some q))(ht:d.s.thr[n]?=some (some t))(hn16:n<16)(hR:gR t)(he:d.ends.length≤1000000)(hw:d.out.aM.length≤1000000){y:Int}:Fn Tryz.prog W 114 [ptr bd,.int .i64 (n:Int),.int .u64 y] [bB bd b p ps d] Unit (fun _=>.tuple #[]) (fun _=>True) (fun _=>[bB bd b p ps (d.dZ n y)]):=by
 refine Fn.intro (N:=34) func114 rfl ntmps114 rfl fun F=>?_
 show ax _ _ _ _ _ _ [bB bd b p ps d,F]
 refine .o2 (C:=bB bd b p ps d) .auto rfl ?_
 rintro vw ve -
 refine J 1 ?_
 refine .draw [arr bd 0 (eA b p d vw ve)] [0,0,0,0,0,1,1,1,1,1,1,2,2,2,1,1,3] rfl (by kernel_rfl) ?_
 refine J 11 ?_
 refine .c2 call93 rfl (FY hp ht hn16 hR) fun _ _=>?_
 refine .d2 rfl Kept.auto (af.gQ 101 rfl rfl (by kernel_rfl)) (by rintro _ _ ⟨b18,rfl,rfl⟩;exact Kept.auto) ?_
 rintro _ _ ⟨b18,rfl,rfl⟩
 refine .d2 rfl Kept.auto (af.fi (enc:=dr) (k:=6) (t.dL y) rfl underlying49 underlying49 typeInfo101 rfl rfl rfl (by decide) rfl rfl rfl .auto rfl .auto (by omega) rfl) (by rintro _ _ ⟨v19,rfl,rfl⟩;exact Kept.auto) ?_
 rintro _ _ ⟨v19,rfl,rfl⟩
 refine J 2 ?_
 refine .d3 rfl (af.pz sizeOf49 rfl rfl rfl) ?_
 rintro _ _ ⟨rfl,rfl⟩
 refine J 10 ?_
 refine .aw rfl (af.gQ 3 rfl rfl (by kernel_rfl)) ?_
 rintro _ _ ⟨b29,rfl,rfl⟩
 refine .aw rfl (af.fi (enc:=aL) (k:=1) (n:Int) rfl underlying23 underlying23 typeInfo3 rfl rfl rfl (by decide) rfl rfl rfl .auto rfl .auto (by omega) rfl) ?_
 rintro _ _ ⟨v30,rfl,rfl⟩
 refine J 3 ?_
 refine .aw rfl (af.pz sizeOf23 rfl rfl rfl) ?_
 rintro _ _ ⟨rfl,rfl⟩
 refine J 1 ?_
 rw[show d.dZ n y = {d with s:=d.s.dn n y,ends:=d.ends++[t.dL y],out:={d.out with aM:=d.out.aM++[(n:Int)] } } from by unfold Dng.dZ;rw[cW ht]]
 exact JR 0 ()
theorem u7{W:World}{bd b p:Nat}{ps:List (Option Nat)}{d:Dng}{t:bo}(hp:ps[d.n]?=some (some p))(ht:d.s.thr[d.n]?=some (some t))(hI:0≤d.i.a∧d.i.a<8):Fn Tryz.prog W 120 [ptr bd] [bB bd b p ps d] Unit (fun _=>.int .u64 d.a) (fun _=>True) (fun _=>[bB bd b p ps d]):=by
 refine Fn.intro (N:=17) func120 rfl ntmps120 rfl fun F=>?_
 show ax _ _ _ _ _ _ [bB bd b p ps d,F]
 refine .o2 (C:=bB bd b p ps d) .auto rfl ?_
 rintro vw ve -
 refine .jq (C:=dt b ps d.s) .auto rfl ?_
 rintro fv sv pv bt vm bg vt bk bw vr -
 refine .fr .auto (cq hp ht) ?_
 refine J 6 ?_
 refine .draw [] [1,1,1,1,1,1,1,1,1,1,1,1,1,1,1] rfl (by kernel_rfl) ?_
 refine J 12 ?_
 refine .p (.aD d.i.a.toNat underlying39 sizeOf38 rfl rfl (by omega) (by omega)) ?_
 refine .p (.ld rfl (Cell.a (mC (by omega)))) ?_
 refine J 4 ?_
 refine .to (A:=aE ps d.s.thr) (Bs:=[arr p 0 (bz t),aE (ps.set d.n none) (d.s.thr.set d.n none)]) .auto (cz hp ht) ?_
 refine .aC rfl rfl fun w s=>⟨(),?_,trivial,ar .auto s⟩
 rw[show d.a=t.aq.getD d.i.a.toNat 0 from by unfold Dng.a;rw[ck ht];rfl]
theorem II{W:World}{bd b p:Nat}{ps:List (Option Nat)}{d:Dng}{t:bo}(hp:ps[d.n]?=some (some p))(ht:d.s.thr[d.n]?=some (some t))(hI:0≤d.i.b∧d.i.b<8):Fn Tryz.prog W 162 [ptr bd] [bB bd b p ps d] Unit (fun _=>.int .u64 d.b) (fun _=>True) (fun _=>[bB bd b p ps d]):=by
 refine Fn.intro (N:=17) func162 rfl ntmps162 rfl fun F=>?_
 show ax _ _ _ _ _ _ [bB bd b p ps d,F]
 refine .o2 (C:=bB bd b p ps d) .auto rfl ?_
 rintro vw ve -
 refine .jq (C:=dt b ps d.s) .auto rfl ?_
 rintro fv sv pv bt vm bg vt bk bw vr -
 refine .fr .auto (cq hp ht) ?_
 refine J 6 ?_
 refine .draw [] [1,1,1,1,1,1,1,1,1,1,1,1,1,1,1] rfl (by kernel_rfl) ?_
 refine J 12 ?_
 refine .p (.aD d.i.b.toNat underlying39 sizeOf38 rfl rfl (by omega) (by omega)) ?_
 refine .p (.ld rfl (Cell.a (mC (by omega)))) ?_
 refine J 4 ?_
 refine .to (A:=aE ps d.s.thr) (Bs:=[arr p 0 (bz t),aE (ps.set d.n none) (d.s.thr.set d.n none)]) .auto (cz hp ht) ?_
 refine .aC rfl rfl fun w s=>⟨(),?_,trivial,ar .auto s⟩
 rw[show d.b=t.aq.getD d.i.b.toNat 0 from by unfold Dng.b;rw[ck ht];rfl]
theorem nE{W:World}{bd b p:Nat}{ps:List (Option Nat)}{d:Dng}(hr:d.s.au.length≤1000000000)(he:d.ends.length≤1000000):Fn Tryz.prog W 86 [ptr bd] [bB bd b p ps d] Value (fun u=>.agg (xH u d.finish.1).toArray) (fun _=>True) (fun u=>[sl aL 1 u d.finish.1.aM,dt b ps d.finish.2]):=by
 refine Fn.intro (N:=25) func86 rfl ntmps86 rfl fun F=>?_
 show ax _ _ _ _ _ _ [bB bd b p ps d,F]
 refine .o2 (C:=bB bd b p ps d) .auto rfl ?_
 rintro vw ve -
 refine .jq (C:=dt b ps d.s) .auto rfl ?_
 rintro fv sv pv bt vm bg vt bk bw vr -
 refine J 2 ?_
 refine .aw rfl (af.alloc rfl zeroValue93 rfl) ?_
 rintro _ _ ⟨b2,rfl,rfl⟩
 refine J 3 ?_
 refine .draw [arr bd 0 (eA b p d vw ve),arr b 0 (fM fv sv pv d.s.dK bt ps vm bg vt bk bw vr)] [0,0,0,0,1,1,1,1,1,1,1,1,1,1,1,2,1,1,3] rfl (by kernel_rfl) ?_
 refine J 15 ?_
 refine .d2 rfl Kept.auto (af.append rfl underlying49 underlying49 typeInfo101 rfl rfl rfl (by decide) rfl rfl .auto Rd.s (by omega) (rP _)) (by rintro _ _ ⟨v18,rfl,rfl⟩;exact Kept.auto) ?_
 rintro _ _ ⟨v18,rfl,rfl⟩
 refine J 2 ?_
 refine .d3 rfl (af.pz sizeOf49 rfl rfl rfl) ?_
 rintro _ _ ⟨rfl,rfl⟩
 rw[ox]
 refine J 7 ?_
 refine .p (.la rfl (Cells.jA (ds:=xH vw d.out) Cells.a rfl)) ?_
 refine .aw rfl (af.Eo (vs:=[.bool d.out.bE,.bool d.out.ended,.bool d.out.yielded]) (by exact sizeOf93) rfl rfl rfl rfl) ?_
 rintro _ _ ⟨rfl,rfl⟩
 refine J 3 ?_
 refine .fw rfl rfl isAgg93 (by exact sizeOf93) Cells.a fun w s=>⟨vw,?_,trivial,ar .auto s⟩
 rfl
end Go.SLYtefdijgllbkmfaaGreat
namespace Go.SLYtefdijgllbkmfaaGreat
open Go Go.RowKit Go.Proofs Go.Proofs.Tryz
attribute [local irreducible] ax aQ bu cj bQ Y
theorem fJ{W:World}{a:Int}:Fn Tryz.prog W 286 [.int .u64 a] [] Unit (fun _=>.float .f64 a.toNat) (fun _=>True) (fun _=>[]):=by
 refine Fn.intro (N:=5) func286 rfl ntmps286 rfl fun F=>?_
 show ax _ _ _ _ _ _ [F]
 refine J 8 ?_
 refine .p (.ext (e:=Extern.MathFloatBits.float64frombits) func219 rfl rfl rfl (by kernel_rfl) rfl (fun w=>rfl)) ?_
 exact JR 4 ()
theorem An{W:World}{n:Nat}:Fn Tryz.prog W 316 [.float .f64 n] [] Unit (fun _=>.bool (jO n n != some .eq)) (fun _=>True) (fun _=>[]):=by
 refine Fn.intro (N:=6) func316 rfl ntmps316 rfl fun F=>?_
 show ax _ _ _ _ _ _ [F]
 refine J 9 ?_
 refine .p (.LH rfl rfl (fun w=>rfl)) ?_
 exact JR 4 ()
theorem lu{W:World}{n:Nat}:Fn Tryz.prog W 291 [.float .f64 n] [] Unit (fun _=>.bool (jO n n != some .eq)) (fun _=>True) (fun _=>[]):=by
 refine Fn.intro (N:=5) func291 rfl ntmps291 rfl fun F=>?_
 show ax _ _ _ _ _ _ [F]
 refine J 8 ?_
 refine .c call316 rfl An fun _ _=>?_
 exact JR 4 ()
theorem kI{W:World}{n:Nat}:Fn Tryz.prog W 287 [.float .f64 n] [] Unit (fun _=>.int .u64 (fA (n:Int))) (fun _=>True) (fun _=>[]):=by
 refine Fn.intro (N:=7) func287 rfl ntmps287 rfl fun F=>?_
 show ax _ _ _ _ _ _ [F]
 refine J 9 ?_
 refine .c call291 rfl lu fun _ _=>?_
 refine JD 2 (fun h4=>?_) fun h4=>?_
 ·refine J 7 ?_
  refine .aC rfl rfl fun w s=>⟨(),?_,trivial,ar .auto s⟩
  rw[pJ,if_pos h4];rfl
 ·refine J 5 ?_
  refine .p (.ext (e:=Extern.MathFloatBits.float64bits) func221 rfl rfl rfl (by kernel_rfl) rfl (fun w=>rfl)) ?_
  refine J 4 ?_
  refine .aC rfl rfl fun w s=>⟨(),?_,trivial,ar .auto s⟩
  rw[pJ,if_neg (by rw[h4];simp)]
theorem HY{W:World}{a b:Int}:Fn Tryz.prog W 247 [.int .u64 a,.int .u64 b] [] Unit (fun _=>.int .u64 (B9 a b)) (fun _=>True) (fun _=>[]):=by
 refine Fn.intro (N:=11) func247 rfl ntmps247 rfl fun F=>?_
 show ax _ _ _ _ _ _ [F]
 refine J 8 ?_
 refine .c call286 rfl fJ fun _ _=>?_
 refine J 1 ?_
 refine .c call286 rfl fJ fun _ _=>?_
 refine .aw rfl (af.GH (Ieee.double.add _ _) rfl rfl rfl (fun w=>rfl)) ?_
 rintro _ _ ⟨r9,hr9,rfl,rfl⟩
 refine .c call287 rfl kI fun _ _=>?_
 refine J 4 ?_
 refine .aC rfl rfl fun w s=>⟨(),?_,trivial,ar .auto s⟩
 rw[jE hr9];rfl
theorem HZ{W:World}{a b:Int}:Fn Tryz.prog W 248 [.int .u64 a,.int .u64 b] [] Unit (fun _=>.int .u64 (Ca a b)) (fun _=>True) (fun _=>[]):=by
 refine Fn.intro (N:=11) func248 rfl ntmps248 rfl fun F=>?_
 show ax _ _ _ _ _ _ [F]
 refine J 8 ?_
 refine .c call286 rfl fJ fun _ _=>?_
 refine J 1 ?_
 refine .c call286 rfl fJ fun _ _=>?_
 refine .aw rfl (af.GH (Ieee.double.sub _ _) rfl rfl rfl (fun w=>rfl)) ?_
 rintro _ _ ⟨r9,hr9,rfl,rfl⟩
 refine .c call287 rfl kI fun _ _=>?_
 refine J 4 ?_
 refine .aC rfl rfl fun w s=>⟨(),?_,trivial,ar .auto s⟩
 rw[jE hr9];rfl
theorem H2{W:World}{a b:Int}:Fn Tryz.prog W 249 [.int .u64 a,.int .u64 b] [] Unit (fun _=>.int .u64 (Cb a b)) (fun _=>True) (fun _=>[]):=by
 refine Fn.intro (N:=11) func249 rfl ntmps249 rfl fun F=>?_
 show ax _ _ _ _ _ _ [F]
 refine J 8 ?_
 refine .c call286 rfl fJ fun _ _=>?_
 refine J 1 ?_
 refine .c call286 rfl fJ fun _ _=>?_
 refine .aw rfl (af.GH (Ieee.double.mul _ _) rfl rfl rfl (fun w=>rfl)) ?_
 rintro _ _ ⟨r9,hr9,rfl,rfl⟩
 refine .c call287 rfl kI fun _ _=>?_
 refine J 4 ?_
 refine .aC rfl rfl fun w s=>⟨(),?_,trivial,ar .auto s⟩
 rw[jE hr9];rfl
theorem H3{W:World}{a b:Int}:Fn Tryz.prog W 250 [.int .u64 a,.int .u64 b] [] Unit (fun _=>.int .u64 (Cc a b)) (fun _=>True) (fun _=>[]):=by
 refine Fn.intro (N:=11) func250 rfl ntmps250 rfl fun F=>?_
 show ax _ _ _ _ _ _ [F]
 refine J 8 ?_
 refine .c call286 rfl fJ fun _ _=>?_
 refine J 1 ?_
 refine .c call286 rfl fJ fun _ _=>?_
 refine .aw rfl (af.GH (Ieee.double.div _ _) rfl rfl rfl (fun w=>rfl)) ?_
 rintro _ _ ⟨r9,hr9,rfl,rfl⟩
 refine .c call287 rfl kI fun _ _=>?_
 refine J 4 ?_
 refine .aC rfl rfl fun w s=>⟨(),?_,trivial,ar .auto s⟩
 rw[jE hr9];rfl
theorem F0{W:World}{m n:Nat}:Fn Tryz.prog W 288 [.float .f64 m,.float .f64 n] [] Unit (fun _=>.float .f64 (eD true .lt m n)) (fun _=>True) (fun _=>[]):=by
 refine Fn.intro (N:=11) func288 rfl ntmps288 rfl fun F=>?_
 show ax _ _ _ _ _ _ [F]
 refine J 6 ?_
 refine .gK rfl ?_
 refine J 4 ?_
 refine .p (.ext (e := Extern.MathDim.pick "math.archMin" true .lt) func312 rfl rfl rfl (by kernel_rfl) rfl (fun w => rfl)) ?_
 exact JR 5 ()
theorem F1{W:World}{m n:Nat}:Fn Tryz.prog W 290 [.float .f64 m,.float .f64 n] [] Unit (fun _=>.float .f64 (eD false .gt m n)) (fun _=>True) (fun _=>[]):=by
 refine Fn.intro (N:=11) func290 rfl ntmps290 rfl fun F=>?_
 show ax _ _ _ _ _ _ [F]
 refine J 6 ?_
 refine .gK rfl ?_
 refine J 4 ?_
 refine .p (.ext (e := Extern.MathDim.pick "math.archMax" false .gt) func314 rfl rfl rfl (by kernel_rfl) rfl (fun w => rfl)) ?_
 exact JR 5 ()
theorem BL{W:World}{n:Nat}{a b:Int}(ha:0≤a)(hb:0≤b):Fn Tryz.prog W 289 [.float .f64 n,.int .u64 a,.int .u64 b] [] Unit (fun _=>.int .u64 (if (mR a || mR b)=true then mW else fA (n:Int))) (fun _=>True) (fun _=>[]):=by
 refine Fn.intro (N:=17) func289 rfl ntmps289 rfl fun F=>?_
 show ax _ _ _ _ _ _ [F]
 refine J 9 ?_
 refine .c call286 rfl fJ fun _ _=>?_
 refine .c call291 rfl lu fun _ _=>?_
 refine J 1 ?_
 apply aQ.gj 4 14 10 [10,11,12,13,14] rfl
 ·intro h10
  refine J 1 ?_
  refine .cg call286 rfl fJ fun _ _=>?_
  refine .cg call291 rfl lu fun _ _=>?_
  exact JS 2
 ·intro h10
  exact JS 5
 refine JD 2 (fun h14=>?_) fun h14=>?_
 ·rw[gA ha,gA hb] at h14
  refine J 7 ?_
  refine .aC rfl rfl fun w s=>⟨(),?_,trivial,ar .auto s⟩
  rw[if_pos h14];rfl
 ·rw[gA ha,gA hb] at h14
  refine J 5 ?_
  refine .c call287 rfl kI fun _ _=>?_
  refine J 4 ?_
  refine .aC rfl rfl fun w s=>⟨(),?_,trivial,ar .auto s⟩
  rw[if_neg (by rw[h14];simp)]
theorem H4{W:World}{a b:Int}(ha:0≤a)(hb:0≤b):Fn Tryz.prog W 251 [.int .u64 a,.int .u64 b] [] Unit (fun _=>.int .u64 (n8 a b)) (fun _=>True) (fun _=>[]):=by
 refine Fn.intro (N:=13) func251 rfl ntmps251 rfl fun F=>?_
 show ax _ _ _ _ _ _ [F]
 refine J 8 ?_
 refine .c call286 rfl fJ fun _ _=>?_
 refine J 1 ?_
 refine .c call286 rfl fJ fun _ _=>?_
 refine .c call288 rfl F0 fun _ _=>?_
 refine J 2 ?_
 refine .c call289 rfl (BL ha hb) fun _ _=>?_
 exact JR 4 ()
theorem H5{W:World}{a b:Int}(ha:0≤a)(hb:0≤b):Fn Tryz.prog W 252 [.int .u64 a,.int .u64 b] [] Unit (fun _=>.int .u64 (n9 a b)) (fun _=>True) (fun _=>[]):=by
 refine Fn.intro (N:=13) func252 rfl ntmps252 rfl fun F=>?_
 show ax _ _ _ _ _ _ [F]
 refine J 8 ?_
 refine .c call286 rfl fJ fun _ _=>?_
 refine J 1 ?_
 refine .c call286 rfl fJ fun _ _=>?_
 refine .c call290 rfl F1 fun _ _=>?_
 refine J 2 ?_
 refine .c call289 rfl (BL ha hb) fun _ _=>?_
 exact JR 4 ()
theorem F2{W:World}{a b:Int}:Fn Tryz.prog W 253 [.int .u64 a,.int .u64 b] [] Unit (fun _=>.bool (D5 a b)) (fun _=>True) (fun _=>[]):=by
 refine Fn.intro (N:=10) func253 rfl ntmps253 rfl fun F=>?_
 show ax _ _ _ _ _ _ [F]
 refine J 8 ?_
 refine .c call286 rfl fJ fun _ _=>?_
 refine J 1 ?_
 refine .c call286 rfl fJ fun _ _=>?_
 refine .p (.KC rfl rfl) ?_
 exact JR 4 ()
theorem C3{W:World}{a:Int}(ha:0≤a):Fn Tryz.prog W 254 [.int .u64 a] [] Unit (fun _=>.int .u64 (fe a)) (fun _=>True) (fun _=>[]):=by
 refine Fn.intro (N:=18) func254 rfl ntmps254 rfl fun F=>?_
 show ax _ _ _ _ _ _ [F]
 refine J 8 ?_
 refine .c call286 rfl fJ fun _ _=>?_
 refine J 7 ?_
 refine .c call291 rfl lu fun _ _=>?_
 refine JD 3 (fun h9=>?_) fun h9=>?_
 ·refine J 7 ?_
  refine .aC rfl rfl fun w s=>⟨(),?_,trivial,ar .auto s⟩
  rw[fe,if_pos (by rw[← gA ha];exact h9)]
 ·refine J 3 ?_
  refine .p (.LG rfl rfl) ?_
  refine JD 3 (fun h12=>?_) fun h12=>?_
  ·have g12:(Ieee.double.order a.toNat oa == some .gt || Ieee.double.order a.toNat oa == some .eq)=true:=h12
   refine J 7 ?_
   refine .aC rfl rfl fun w s=>⟨(),?_,trivial,ar .auto s⟩
   rw[fe,if_neg (by rw[← gA ha,h9];simp),if_pos g12]
  ·have g12:(Ieee.double.order a.toNat oa == some .gt || Ieee.double.order a.toNat oa == some .eq)=false:=h12
   refine J 3 ?_
   refine .p (.KC rfl rfl) ?_
   refine JD 3 (fun h15=>?_) fun h15=>?_
   ·have g15:(Ieee.double.order a.toNat ob == some .lt)=true:=h15
    refine J 7 ?_
    refine .aC rfl rfl fun w s=>⟨(),?_,trivial,ar .auto s⟩
    rw[fe,if_neg (by rw[← gA ha,h9];simp),if_neg (by rw[g12];simp),if_pos g15]
   ·have g15:(Ieee.double.order a.toNat ob == some .lt)=false:=h15
    refine J 3 ?_
    obtain⟨k,hk,hk1,hk2⟩:=Cf h9 g12 g15
    refine .p (.I5 (fun w=>Cg hk hk1 hk2) rfl) ?_
    refine .p (.conv underlying2 underlying38 rfl) ?_
    refine J 5 ?_
    refine .aC rfl rfl fun w s=>⟨(),?_,trivial,ar .auto s⟩
    rw[fe,if_neg (by rw[← gA ha,h9];simp),if_neg (by rw[g12];simp),if_neg (by rw[g15];simp),hk];exact ju (Ee k)
theorem yK{W:World}{a:Int}:Fn Tryz.prog W 255 [.int .u64 a] [] Unit (fun _=>.int .u64 (fj a)) (fun _=>True) (fun _=>[]):=by
 refine Fn.intro (N:=7) func255 rfl ntmps255 rfl fun F=>?_
 show ax _ _ _ _ _ _ [F]
 refine J 8 ?_
 refine .p (.conv underlying38 underlying2 rfl) ?_
 refine .p (.toFloat (fun w=>rfl) rfl) ?_
 refine .c call287 rfl kI fun _ _=>?_
 exact JR 4 ()
end Go.SLYtefdijgllbkmfaaGreat
namespace Go.SLYtefdijgllbkmfaaGreat
open Go Go.RowKit Go.Proofs Go.Proofs.Tryz
theorem Ao{W:World}{A:aa}{fv c1 c2 c3 c4 c5 c6 c7:Value}{fs:List (Value×List Ins)}{f:iG}{p:eZ}(hr:Rd W [A] cn 1 fv fs)(hi:∀ x∈fs,Rd W [A] dI 5 x.1 x.2)(hp:fs.map (·.2)=p.funcs)(_hl:fs.length≤1000000)(_hl2:∀ x∈fs,x.2.length≤1000000):Fn Tryz.prog W 71 [.agg #[fv,c1,c2,c3,c4,c5,c6,c7],.agg (iJ f).toArray] [A] Unit (fun _=>Ef (eE p f)) (fun _=>True) (fun _=>[A]):=by
 refine Fn.intro (N:=45) func71 rfl ntmps71 rfl fun F=>?_
 haveI hRI:∀ (H:List aa) [bX H A],aI W H fv cn 1 fs:=fun H h=>⟨hr.at h.has⟩
 show ax _ _ _ _ _ _ [A,F]
 obtain⟨x,hxd⟩:∃ x:Value×List Ins,fs.getD f.fn.toNat (.slice none 0 0,[])=x:=⟨_,rfl⟩
 have hx:f.fn.toNat<fs.length→fs[f.fn.toNat]?=some x:=fun h=>hxd ▸ getD_some h
 refine J 2 ?_
 refine .aw rfl (af.box rfl rfl rfl) ?_
 rintro _ _ ⟨b2,rfl,rfl⟩
 refine .mem (H':=[arr b2 0 [fv,c1,c2,c3,c4,c5,c6,c7],A,F]) (fun w s=>s) ?_
 refine .aw rfl (af.box rfl rfl rfl) ?_
 rintro _ _ ⟨b3,rfl,rfl⟩
 refine .mem (H':=[arr b3 0 (iJ f),arr b2 0 [fv,c1,c2,c3,c4,c5,c6,c7],A,F]) (fun w s=>s) ?_
 refine .aw rfl (af.alloc rfl zeroValue131 rfl) ?_
 rintro _ _ ⟨b4,rfl,rfl⟩
 refine J 5 ?_
 refine .draw [] [1,1,1,1,1,1,1,1,1,1,1,1,1,1,1,1,1,1,1,1,1,1,1,1,1,1,1,1] rfl (by kernel_rfl) ?_
 refine J 4 ?_
 apply bu.ga 7 16 9 [9,10,11,12,13,14,15,16] rfl
 ·intro h9
  exact JS 8
 ·intro h9
  exact JS 8
 refine J 1 ?_
 apply bu.gj 4 21 17 [17,18,19,20,21] rfl
 ·intro h17
  exact JS 5
 ·intro h17
  exact JS 5
 refine J 1 ?_
 apply bu.gj 11 33 22 [22,23,24,25,26,27,28,29,30,31,32,33] rfl
 ·intro h22
  simp only[Bool.or_eq_false_iff,decide_eq_false_iff_not] at h22
  have hlt:f.fn.toNat<fs.length:=by omega
  have hix:=hi x (List.mem_of_getElem? (hx hlt))
  haveI hI4:∀ (H:List aa) [bX H A],aI W H x.1 dI 5 x.2:=fun H h=>⟨hix.at h.has⟩
  refine J 6 ?_
  refine .g (.ix f.fn.toNat rfl rfl (by omega) hlt) ?_
  refine .g (.ld rfl (Cell.za Rd.s (hx hlt) (by rfl))) ?_
  exact JS 4
 ·intro h22
  exact JS 12
 refine JD 2 (fun h33=>?_) fun h33=>?_
 ·refine J 2 ?_
  refine .p (.qO ([(.int .i64 0),(.int .i64 0),(.int .i64 0),(.int .i64 0),(.int .u64 0)]) (by kernel_rfl)) ?_
  refine J 6 ?_
  refine .gT rfl rfl isAgg131 (by exact sizeOf131) Cells.a rfl fun w s=>⟨(),?_,trivial,ar .auto s⟩
  rw[GJ (z:=(.slice none 0 0,[])) hp (by rw[hxd];exact h33) rfl];rfl
 ·refine J 3 ?_
  refine .draw [] [1,1,1,1,1,1,1,1,1,1,3,1] rfl (by kernel_rfl) ?_
  simp only[Bool.or_eq_false_iff,decide_eq_false_iff_not] at h33
  have hlt:f.fn.toNat<fs.length:=by omega
  have hix:=hi x (List.mem_of_getElem? (hx hlt))
  haveI hI4:∀ (H:List aa) [bX H A],aI W H x.1 dI 5 x.2:=fun H h=>⟨hix.at h.has⟩
  obtain⟨i,hin⟩:=ay (show f.pc.toNat<x.2.length by omega)
  refine J 4 ?_
  refine .p (.ix f.fn.toNat rfl rfl (by omega) hlt) ?_
  refine .p (.ld rfl (Cell.za Rd.s (hx hlt) (by rfl))) ?_
  refine J 2 ?_
  refine .p (.ix f.pc.toNat rfl rfl (by omega) (by omega)) ?_
  refine .p (.la rfl (Cells.rd Rd.s hin)) ?_
  refine .d3 rfl (af.tP (by exact sizeOf131) rfl rfl rfl (by rfl)) ?_
  rintro _ _ ⟨rfl,rfl⟩
  refine J 4 ?_
  refine .gT rfl rfl isAgg131 (by exact sizeOf131) Cells.a rfl fun w s=>⟨(),?_,trivial,ar .auto s⟩
  rw[Eg hp (by omega) (by omega) (hx hlt) hin];rfl
theorem vd{W:World}{b:Bool}:Fn Tryz.prog W 246 [.bool b] [] Unit (fun _=>.int .u64 (rV b)) (fun _=>True) (fun _=>[]):=by
 refine Fn.intro (N:=4) func246 rfl ntmps246 rfl fun F=>?_
 show ax _ _ _ _ _ _ [F]
 refine JD 11 (fun h=>?_) fun h=>?_
 ·refine J 7 ?_
  refine .aC rfl rfl fun w s=>⟨(),?_,trivial,ar .auto s⟩
  subst h;rfl
 ·refine J 8 ?_
  refine .aC rfl rfl fun w s=>⟨(),?_,trivial,ar .auto s⟩
  subst h;rfl
theorem yL{W:World}{n:Int}:Fn Tryz.prog W 205 [.int .i64 n] [] Unit (fun _=>.bool (lQ n)) (fun _=>True) (fun _=>[]):=by
 refine Fn.intro (N:=13) func205 rfl ntmps205 rfl fun F=>?_
 show ax _ _ _ _ _ _ [F]
 refine J 10 ?_
 apply aQ.ga 3 8 5 [5,6,7,8] rfl
 ·intro h5
  exact JS 4
 ·intro h5
  exact JS 4
 refine J 1 ?_
 apply aQ.gj 3 12 9 [9,10,11,12] rfl
 ·intro h9
  exact JS 4
 ·intro h9
  exact JS 4
 exact JR 4 ()
theorem yM{W:World}{op a b:Int}(ha:0≤a)(hb:0≤b):Fn Tryz.prog W 206 [.int .i64 op,.int .u64 a,.int .u64 b] [] Bool (fun t=>.tuple #[.int .u64 (aH op a b),.bool t]) (fun _=>True) (fun _=>[]):=by
 refine Fn.intro (N:=77) func206 rfl ntmps206 rfl fun F=>?_
 show ax _ _ _ _ _ _ [F]
 refine JD 19 (fun h9=>?_) fun h9=>?_
 ·refine J 10 ?_
  refine .eo rfl rfl rfl fun w s=>⟨true,?_,trivial,ar .auto s⟩
  rw[show aH op a b=a from by unfold aH;rw[if_pos h9]]
 ·refine JD 6 (fun h12=>?_) fun h12=>?_
  ·refine J 4 ?_
   refine .p (.yZ rfl rfl) ?_
   refine J 7 ?_
   refine .eo rfl rfl rfl fun w s=>⟨true,?_,trivial,ar .auto s⟩
   rw[show aH op a b=gU (a+b) from by unfold aH;rw[if_neg h9,if_pos h12]]
   rfl
  ·refine JD 6 (fun h17=>?_) fun h17=>?_
   ·refine J 4 ?_
    refine .p (.Gs rfl rfl) ?_
    refine J 7 ?_
    refine .eo rfl rfl rfl fun w s=>⟨true,?_,trivial,ar .auto s⟩
    rw[show aH op a b=gU (a-b) from by unfold aH;rw[if_neg h9,if_neg h12,if_pos h17]]
    rfl
   ·refine JD 6 (fun h22=>?_) fun h22=>?_
    ·refine J 4 ?_
     refine .p (.Du rfl rfl) ?_
     refine J 7 ?_
     refine .eo rfl rfl rfl fun w s=>⟨true,?_,trivial,ar .auto s⟩
     rw[show aH op a b=gU (a * b) from by unfold aH;rw[if_neg h9,if_neg h12,if_neg h17,if_pos h22]]
     rfl
    ·refine JD 6 (fun h27=>?_) fun h27=>?_
     ·refine J 5 ?_
      refine .c call246 rfl vd fun _ _=>?_
      refine J 7 ?_
      refine .eo rfl rfl rfl fun w s=>⟨true,?_,trivial,ar .auto s⟩
      rw[show aH op a b=rV (decide (a<b)) from by unfold aH;rw[if_neg h9,if_neg h12,if_neg h17,if_neg h22,if_pos h27]]
     ·refine JD 6 (fun h33=>?_) fun h33=>?_
      ·refine J 4 ?_
       refine .c call247 rfl HY fun _ _=>?_
       refine J 7 ?_
       refine .eo rfl rfl rfl fun w s=>⟨true,?_,trivial,ar .auto s⟩
       rw[show aH op a b=B9 a b from by unfold aH;rw[if_neg h9,if_neg h12,if_neg h17,if_neg h22,if_neg h27,if_pos h33]]
      ·refine JD 6 (fun h38=>?_) fun h38=>?_
       ·refine J 4 ?_
        refine .c call248 rfl HZ fun _ _=>?_
        refine J 7 ?_
        refine .eo rfl rfl rfl fun w s=>⟨true,?_,trivial,ar .auto s⟩
        rw[show aH op a b=Ca a b from by unfold aH;rw[if_neg h9,if_neg h12,if_neg h17,if_neg h22,if_neg h27,if_neg h33,if_pos h38]]
       ·refine JD 6 (fun h43=>?_) fun h43=>?_
        ·refine J 4 ?_
         refine .c call249 rfl H2 fun _ _=>?_
         refine J 7 ?_
         refine .eo rfl rfl rfl fun w s=>⟨true,?_,trivial,ar .auto s⟩
         rw[show aH op a b=Cb a b from by unfold aH;rw[if_neg h9,if_neg h12,if_neg h17,if_neg h22,if_neg h27,if_neg h33,if_neg h38,if_pos h43]]
        ·refine JD 6 (fun h48=>?_) fun h48=>?_
         ·refine J 4 ?_
          refine .c call250 rfl H3 fun _ _=>?_
          refine J 7 ?_
          refine .eo rfl rfl rfl fun w s=>⟨true,?_,trivial,ar .auto s⟩
          rw[show aH op a b=Cc a b from by unfold aH;rw[if_neg h9,if_neg h12,if_neg h17,if_neg h22,if_neg h27,if_neg h33,if_neg h38,if_neg h43,if_pos h48]]
         ·refine JD 6 (fun h53=>?_) fun h53=>?_
          ·refine J 4 ?_
           refine .c call251 rfl (H4 ha hb) fun _ _=>?_
           refine J 7 ?_
           refine .eo rfl rfl rfl fun w s=>⟨true,?_,trivial,ar .auto s⟩
           rw[show aH op a b=n8 a b from by unfold aH;rw[if_neg h9,if_neg h12,if_neg h17,if_neg h22,if_neg h27,if_neg h33,if_neg h38,if_neg h43,if_neg h48,if_pos h53]]
          ·refine JD 6 (fun h58=>?_) fun h58=>?_
           ·refine J 4 ?_
            refine .c call252 rfl (H5 ha hb) fun _ _=>?_
            refine J 7 ?_
            refine .eo rfl rfl rfl fun w s=>⟨true,?_,trivial,ar .auto s⟩
            rw[show aH op a b=n9 a b from by unfold aH;rw[if_neg h9,if_neg h12,if_neg h17,if_neg h22,if_neg h27,if_neg h33,if_neg h38,if_neg h43,if_neg h48,if_neg h53,if_pos h58]]
           ·refine JD 6 (fun h63=>?_) fun h63=>?_
            ·refine J 4 ?_
             refine .c call253 rfl F2 fun _ _=>?_
             refine .c call246 rfl vd fun _ _=>?_
             refine J 7 ?_
             refine .eo rfl rfl rfl fun w s=>⟨true,?_,trivial,ar .auto s⟩
             rw[show aH op a b=rV (D5 a b) from by unfold aH;rw[if_neg h9,if_neg h12,if_neg h17,if_neg h22,if_neg h27,if_neg h33,if_neg h38,if_neg h43,if_neg h48,if_neg h53,if_neg h58,if_pos h63]]
            ·refine JD 6 (fun h69=>?_) fun h69=>?_
             ·refine J 3 ?_
              refine .c call254 rfl (C3 ha) fun _ _=>?_
              refine J 7 ?_
              refine .eo rfl rfl rfl fun w s=>⟨true,?_,trivial,ar .auto s⟩
              rw[show aH op a b=fe a from by unfold aH;rw[if_neg h9,if_neg h12,if_neg h17,if_neg h22,if_neg h27,if_neg h33,if_neg h38,if_neg h43,if_neg h48,if_neg h53,if_neg h58,if_neg h63,if_pos h69]]
             ·refine JD 6 (fun h73=>?_) fun h73=>?_
              ·refine J 3 ?_
               refine .c call255 rfl yK fun _ _=>?_
               refine J 7 ?_
               refine .eo rfl rfl rfl fun w s=>⟨true,?_,trivial,ar .auto s⟩
               rw[show aH op a b=fj a from by unfold aH;rw[if_neg h9,if_neg h12,if_neg h17,if_neg h22,if_neg h27,if_neg h33,if_neg h38,if_neg h43,if_neg h48,if_neg h53,if_neg h58,if_neg h63,if_neg h69,if_pos h73]]
              ·refine J 10 ?_
               refine .eo rfl rfl rfl fun w s=>⟨false,?_,trivial,ar .auto s⟩
               rw[show aH op a b=0 from by unfold aH;rw[if_neg h9,if_neg h12,if_neg h17,if_neg h22,if_neg h27,if_neg h33,if_neg h38,if_neg h43,if_neg h48,if_neg h53,if_neg h58,if_neg h63,if_neg h69,if_neg h73]]
theorem fV{W:World}{b:Nat}{n:Int}(hn:0≤n∧n<8):Fn Tryz.prog W 203 [ptr b,.int .i64 n] [] Unit (fun _=>.pointer (some ⟨b,2+n.toNat,none⟩)) (fun _=>True) (fun _=>[]):=by
 refine Fn.intro (N:=19) func203 rfl ntmps203 rfl fun F=>?_
 show ax _ _ _ _ _ _ [F]
 refine J 11 ?_
 apply aQ.ga 3 10 7 [7,8,9,10] rfl
 ·intro h7
  exact JS 4
 ·intro h7
  exact JS 4
 refine JD 2 (fun h10=>?_) fun h10=>?_
 ·simp only[Bool.or_eq_true,decide_eq_true_eq] at h10
  exact absurd h10 (by omega)
 ·simp only[Bool.or_eq_false_iff,decide_eq_false_iff_not] at h10
  refine J 9 ?_
  refine .p (.aD n.toNat underlying39 sizeOf38 rfl rfl (by omega) (by omega)) ?_
  refine J 4 ?_
  refine .aC rfl rfl fun w s=>⟨(),?_,trivial,ar .auto s⟩
  rw[Nat.mul_one]
theorem nF{W:World}{b:Nat}{f:iG}{v:Value}{m:List Int}{at_:Int}(h0:0≤at_)(hl:m.length≤1000000):Cd Tryz.prog W 204 [ptr b,.int .u64 at_] [arr b 0 (tW f v),sl bF 1 v m] Unit (fun _=>if at_<m.length then .returned (.pointer (some ⟨blk v,cC v+at_.toNat * 1,none⟩)) else .panicked (tX 260 6)) (fun _=>True) (fun _=>[arr b 0 (tW f v),sl bF 1 v m]):=by
 refine Cd.intro (N:=21) func204 rfl ntmps204 rfl fun F=>?_
 show ax _ _ _ _ _ _ [arr b 0 (tW f v),sl bF 1 v m,F]
 refine J 14 ?_
 refine .p (.gh underlying3 underlying38 rfl (by omega)) ?_
 refine JD 3 (fun h12=>?_) fun h12=>?_
 ·refine J 1 ?_
  refine .p (.jt (fun v1=>[v1]) rfl (by kernel_rfl)) ?_
  refine .p (.GF underlying260 rfl rfl) ?_
  refine .panic rfl ?_
  refine fun a w ha s=>And.intro ha.defers (Exists.intro () (And.intro ?_ (And.intro trivial (ar .auto s))))
  rw[if_neg (by omega)];rfl
 ·refine J 9 ?_
  refine .p (.ix at_.toNat rfl rfl (by omega) (by omega)) ?_
  refine J 4 ?_
  refine .aC rfl rfl fun w s=>⟨(),?_,trivial,ar .auto s⟩
  rw[if_pos (by omega)]
end Go.SLYtefdijgllbkmfaaGreat
namespace Go.SLYtefdijgllbkmfaaGreat
open Go Go.RowKit Go.Proofs Go.Proofs.Tryz
theorem F3{W:World}{b:Nat}{f:iG}{v:Value}{m:List Int}{i:Ins}(hI:jb i)(hF:AS f)(hl:m.length≤1000000):Cd Tryz.prog W 161 [ptr b,.agg (dI i).toArray] [arr b 0 (tW f v),sl bF 1 v m] Unit (fun _=>doEnd 260 (hY f m i)) (fun _=>True) (fun _=>LI b v (hY f m i)):=by
 refine Cd.intro (N:=127) func161 rfl ntmps161 rfl fun F=>?_
 show ax _ _ _ _ _ _ [arr b 0 (tW f v),sl bF 1 v m,F]
 have hia:=hI.a
 have hib:=hI.b
 have hic:=hI.c
 have hin:=hI.n
 have hpc:=hF.pc
 refine J 2 ?_
 refine .aw rfl (af.box rfl rfl rfl) ?_
 rintro _ _ ⟨b3,rfl,rfl⟩
 refine .mem (H':=[arr b3 0 (dI i),arr b 0 (tW f v),sl bF 1 v m,F]) (fun w s=>s) ?_
 refine J 9 ?_
 refine .p (.add rfl rfl (by omega)) ?_
 refine J 3 ?_
 refine .nJ (X:=List Int×Int×List Int) [4,5,6,7,8,9,10,11,18,19,20,21,22,23,24,25,26,27,28,29,30,31,32,33,34,35,36,37,38,39,40,41,42,43,44,45,46,47,48,49,50,51,52,53,54,55,56,57,58,59,60,61,62,63,64,65,66,67,68,69,70,71,72,73,74,75,76,77,78,79,80,81,82,83,84,85,86,87,88,89,90,91,92,93,94,95,96,97,98,99,100,101,102,103,104,105,106,107,108,109,110,111,112,113,114,115,116,117,118,119,120,121] (fun z=>hY f m i=some (⟨f.fn,z.2.1,z.1⟩,z.2.2)) (fun z=>[(4,some (.int .i64 z.2.1))]) (fun z=>[arr b 0 (tW ⟨f.fn,f.pc,z.1⟩ v),sl bF 1 v z.2.2,F]) ?_ ?_
 ·refine JD 9 (fun h48=>?_) fun h48=>?_
  ·refine J 3 ?_
   refine .p (.gy underlying38 underlying3 rfl (by have:=hI.j (.inl h48);omega)) ?_
   refine J 3 ?_
   refine .eY (f.aq,i.n,m) .auto ?_ ?_ ?_
   ·unfold hY;rw[if_pos h48]
   ·exact⟨rfl,trivial⟩
   ·exact fun w s=>aK.kept .auto w s
  ·refine JD 8 (fun h55=>?_) fun h55=>?_
   ·refine J 5 ?_
    refine .c call203 rfl (fV hI.a) fun _ _=>?_
    refine J 1 ?_
    refine .p (.ld rfl (Cell.a (lT (by omega)))) ?_
    refine JD 3 (fun h65=>?_) fun h65=>?_
    ·refine J 3 ?_
     refine .p (.gy underlying38 underlying3 rfl (by have:=hI.j (.inr h55);omega)) ?_
     refine J 3 ?_
     refine .eY (f.aq,i.n,m) .auto ?_ ?_ ?_
     ·unfold hY;rw[if_neg h48,if_pos h55,if_pos (show f.eX i.a=0 from h65)]
     ·exact⟨rfl,trivial⟩
     ·exact fun w s=>aK.kept .auto w s
    ·refine J 2 ?_
     refine .eY (f.aq,f.pc+1,m) .auto ?_ ?_ ?_
     ·unfold hY;rw[if_neg h48,if_pos h55,if_neg (show ¬f.eX i.a=0 from h65)]
     ·exact⟨rfl,trivial⟩
     ·exact fun w s=>aK.kept .auto w s
   ·refine JD 8 (fun h69=>?_) fun h69=>?_
    ·refine .draw [arr b3 0 (dI i)] [1,1,1,2,0,0,1,3] rfl (by kernel_rfl) ?_
     refine J 3 ?_
     refine .c2 call203 rfl (fV hI.a) fun _ _=>?_
     refine J 3 ?_
     refine .d3 rfl (af.st sizeOf38 rfl rfl rfl (Nat.blt_eq.mpr (by show 2+i.a.toNat<11;omega))) ?_
     rintro _ _ ⟨rfl,rfl⟩
     rw[zu _ (show i.a.toNat<8 by omega) hF.l]
     refine J 2 ?_
     refine .eY (f.aq.set i.a.toNat i.n,f.pc+1,m) .auto ?_ ?_ ?_
     ·unfold hY;rw[if_neg h48,if_neg h55,if_pos h69];rfl
     ·exact⟨rfl,trivial⟩
     ·exact fun w s=>aK.kept .auto w s
    ·refine JD 8 (fun h80=>?_) fun h80=>?_
     ·refine J 1 ?_
      refine .draw [arr b3 0 (dI i)] [1,1,1,2,0,0,0,3,1,1] rfl (by kernel_rfl) ?_
      refine J 3 ?_
      refine .c2 call203 rfl (fV hI.a) fun _ _=>?_
      refine J 3 ?_
      refine .c call203 rfl (fV hI.b) fun _ _=>?_
      refine J 9 ?_
      refine .p (.ld rfl (Cell.a (lT (by omega)))) ?_
      refine .Ky rfl call204 rfl (nF (f:=f) (m:=m) (at_:=f.aq.getD i.b.toNat 0) (hF.r _).1 hl) .auto (fun _ h=>by split at h <;> cases h) ?_ ?_
      ·rintro⟨⟩ u e -
       have hlt:f.aq.getD i.b.toNat 0<m.length:=Decidable.byContradiction fun hn=>by
        rw[if_neg hn] at e
        cases e
       rw[if_pos hlt] at e
       cases e
       have h0:=(hF.r i.b.toNat).1
       refine J 1 ?_
       refine .p (.ld rfl (Cell.za Rd.s (getD_some (d:=(0:Int)) (show(f.aq.getD i.b.toNat 0).toNat<m.length by omega)) (by rfl))) ?_
       refine J 1 ?_
       refine .aw rfl (af.st sizeOf38 rfl rfl rfl (Nat.blt_eq.mpr (by show 2+i.a.toNat<11;omega))) ?_
       rintro _ _ ⟨rfl,rfl⟩
       rw[zu _ (show i.a.toNat<8 by omega) hF.l]
       refine J 2 ?_
       refine .eY (f.aq.set i.a.toNat (m.getD (f.aq.getD i.b.toNat 0).toNat 0),f.pc+1,m) .auto ?_ ?_ ?_
       ·unfold hY;rw[if_neg h48,if_neg h55,if_neg h69,if_pos h80,if_pos (show f.eX i.b<m.length from hlt)];rfl
       ·exact⟨rfl,trivial⟩
       ·exact fun w s=>aK.kept .auto w s
      ·rintro⟨⟩ c e -
       have hge:¬f.aq.getD i.b.toNat 0<m.length:=fun h=>by
        rw[if_pos h] at e
        cases e
       rw[if_neg hge] at e
       cases e
       have hz:hY f m i=none:=by
        unfold hY;rw[if_neg h48,if_neg h55,if_neg h69,if_pos h80,if_neg (show ¬f.eX i.b<m.length from hge)]
       rw[hz]
       refine fun a w ha s=>And.intro ha.defers (Exists.intro () (And.intro ?_ (And.intro trivial (ar .auto s))))
       rfl
     ·refine JD 8 (fun h101=>?_) fun h101=>?_
      ·refine J 1 ?_
       refine .draw [arr b3 0 (dI i)] [1,1,1,2,0,0,0,3,1,1] rfl (by kernel_rfl) ?_
       refine J 3 ?_
       refine .c2 call203 rfl (fV hI.a) fun _ _=>?_
       refine J 3 ?_
       refine .c call203 rfl (fV hI.b) fun _ _=>?_
       refine J 4 ?_
       rcases Nat.lt_or_ge (f.aq.getD i.a.toNat 0).toNat m.length with hlt | hge
       ·have h0:=(hF.r i.a.toNat).1
        refine .draw [arr b 0 (tW f v)] [1,1,1,1,2,0,0,0,1,3] rfl (by kernel_rfl) ?_
        refine J 3 ?_
        refine .p (.ld rfl (Cell.a (lT (by omega)))) ?_
        refine .c2 call204 rfl (Cd.ok (fun _=>.pointer (some ⟨blk v,cC v+(f.aq.getD i.a.toNat 0).toNat * 1,none⟩)) (nF (f:=f) (m:=m) (at_:=f.aq.getD i.a.toNat 0) (hF.r _).1 hl) (fun _=>if_pos (by omega))) fun _ _=>?_
        refine J 2 ?_
        refine .q (.ld rfl (Cell.a (lT (by omega)))) ?_
        refine J 1 ?_
        refine .d3 rfl (af.gL (x':=f.aq.getD i.b.toNat 0) rfl rfl sizeOf38 rfl (getD_some (d:=(0:Int)) hlt) (by decide) rfl .auto) ?_
        rintro _ _ ⟨rfl,rfl⟩
        refine J 2 ?_
        refine .eY (f.aq,f.pc+1,m.set (f.aq.getD i.a.toNat 0).toNat (f.aq.getD i.b.toNat 0)) .auto ?_ ?_ ?_
        ·unfold hY;rw[if_neg h48,if_neg h55,if_neg h69,if_neg h80,if_pos h101,if_pos (show f.eX i.a<m.length by show f.aq.getD i.a.toNat 0<_;omega)];rfl
        ·exact⟨rfl,trivial⟩
        ·exact fun w s=>aK.kept .auto w s
       ·have h0:=(hF.r i.a.toNat).1
        refine .held [arr b 0 (tW f v)] rfl ?_
        refine AQ.take 0 rfl (by kernel_rfl) (by kernel_rfl) (by kernel_rfl) (fun _ _ _ _ _ h=>h) rfl Kept.auto (Y.m rfl) ?_
        refine AQ.take 1 rfl (by kernel_rfl) (by kernel_rfl) (by kernel_rfl) (fun _ _ _ _ _ h=>h) rfl Kept.auto (Y.m rfl) ?_
        refine AQ.take 2 rfl (by kernel_rfl) (by kernel_rfl) (by kernel_rfl) (fun _ _ _ _ _ h=>h) rfl Kept.auto (Y.n rfl) ?_
        refine AQ.take 3 rfl (by kernel_rfl) (by kernel_rfl) (by kernel_rfl) (fun _ _ _ _ _ h=>h) rfl Kept.auto (Y.load isAgg38 rfl (Cell.a (lT (by omega)))) ?_
        refine AQ.take 5 rfl (by kernel_rfl) (by kernel_rfl) (by kernel_rfl) (fun _ _ _ _ _ h=>h) rfl Kept.auto (Y.m rfl) ?_
        refine AQ.take 6 rfl (by kernel_rfl) (by kernel_rfl) (by kernel_rfl) (fun _ _ _ _ _ h=>h) rfl Kept.auto (Y.n rfl) ?_
        refine AQ.take 7 rfl (by kernel_rfl) (by kernel_rfl) (by kernel_rfl) (fun _ _ _ _ _ h=>h) rfl Kept.auto (Y.load isAgg38 rfl (Cell.a (lT (by omega)))) ?_
        refine AQ.KB 4 rfl (by kernel_rfl) call204 rfl (nF (f:=f) (m:=m) (at_:=f.aq.getD i.a.toNat 0) (hF.r _).1 hl) .auto ?_ ?_
        ·exact fun _=>⟨_,if_neg (by omega)⟩
        rintro⟨⟩ c e -
        rw[if_neg (by omega)] at e
        cases e
        have hz:hY f m i=none:=by
         unfold hY;rw[if_neg h48,if_neg h55,if_neg h69,if_neg h80,if_pos h101,if_neg (show ¬f.eX i.a<m.length by show ¬f.aq.getD i.a.toNat 0<_;omega)]
        rw[hz]
        refine fun a w ha s=>And.intro ha.defers (Exists.intro () (And.intro ?_ (And.intro trivial (ar .auto s))))
        rfl
      ·refine J 1 ?_
       refine .draw [arr b3 0 (dI i),arr b 0 (tW f v)] [1,1,1,2,0,0,0,3,1,1,1,1,1] rfl (by kernel_rfl) ?_
       refine J 3 ?_
       refine .c2 call203 rfl (fV hI.a) fun _ _=>?_
       refine J 3 ?_
       refine .c call203 rfl (fV hI.b) fun _ _=>?_
       refine J 1 ?_
       refine .p (.ld rfl (Cell.a (lT (by omega)))) ?_
       refine J 5 ?_
       refine .nJ (X:=Unit) [11,28,29,30,31,32,33,34,35,36,37] (fun _=>True) (fun _=>[(11,some (.int .u64 (if lQ i.op=true then 0 else f.eX i.c)))]) (fun _=>[arr b3 0 (dI i),arr b 0 (tW f v),sl bF 1 v m,F]) ?_ ?_
       ·refine J 4 ?_
        refine .c call205 rfl yL fun _ _=>?_
        refine JD 3 (fun h31=>?_) fun h31=>?_
        ·refine J 4 ?_
         refine .c call203 rfl (fV hI.c) fun _ _=>?_
         refine J 1 ?_
         refine .p (.ld rfl (Cell.a (lT (by omega)))) ?_
         refine J 2 ?_
         refine .eY () .auto ?_ ?_ ?_
         ·trivial
         ·rw[if_neg (show ¬lQ i.op=true by rw[Bool.not_eq_true'] at h31;rw[h31];simp)];exact⟨rfl,trivial⟩
         ·exact fun w s=>aK.kept .auto w s
        ·refine J 1 ?_
         refine .eY () .auto ?_ ?_ ?_
         ·trivial
         ·rw[if_pos (show lQ i.op=true by simpa using h31)];exact⟨rfl,trivial⟩
         ·exact fun w s=>aK.kept .auto w s
       ·rintro⟨⟩ -
        obtain⟨y,hy⟩:∃ y,y=(if lQ i.op=true then 0 else f.eX i.c):=⟨_,rfl⟩
        have hy0:0≤y:=by
         subst hy
         split
         ·exact Int.le_refl _
         ·exact(hF.r _).1
        rw[← hy]
        refine J 6 ?_
        refine .c call206 rfl (yM (hF.r _).1 hy0) fun t38 _=>?_
        refine J 1 ?_
        refine .p (.extract (v:=.int .u64 (aH i.op (f.aq.getD i.b.toNat 0) y)) rfl rfl) ?_
        refine J 2 ?_
        refine .aw rfl (af.st sizeOf38 rfl rfl rfl (Nat.blt_eq.mpr (by show 2+i.a.toNat<11;omega))) ?_
        rintro _ _ ⟨rfl,rfl⟩
        rw[zu _ (show i.a.toNat<8 by omega) hF.l]
        refine J 2 ?_
        refine .eY (f.aq.set i.a.toNat (aH i.op (f.aq.getD i.b.toNat 0) y),f.pc+1,m) .auto ?_ ?_ ?_
        ·unfold hY;rw[if_neg h48,if_neg h55,if_neg h69,if_neg h80,if_neg h101];subst hy;rfl
        ·exact⟨rfl,trivial⟩
        ·exact fun w s=>aK.kept .auto w s
 ·rintro⟨rs,nx,m2⟩ hz
  simp only at hz
  refine J 8 ?_
  rw[hz]
  exact JR 0 ()
theorem C4{W:World}{p6 p7 p8:Nat}{Hs:List aa}{w:World}(hs:Sat W w (seps Hs)):CallsD Tryz.prog 160 #[ptr p6,ptr p7,ptr p8] .returning w (fun e u2 w2=>u2 = .returning∧e = .returned (.tuple #[])∧Sat W w2 (seps Hs)):=by
 refine lU (d:=6) (N:=15) (v:=.nilIface) (u2:=.returning) (args:=[ptr p6,ptr p7,ptr p8]) func160 rfl ntmps160 rfl rfl rfl (fun c cs hc=>.inr ⟨by simp[recoverD,hc],rfl,rfl⟩) hs ?_
 refine J 3 ?_
 refine .p (.KD underlying20 rfl) ?_
 refine J 2 ?_
 refine .gK rfl ?_
 refine J 4 ?_
 refine .KF fun w s=>⟨rfl,rfl,?_⟩
 first | exact s | exact aK.kept .auto _ s
theorem C5{W:World}{p6 p7 p8:Nat}{F:aa}{w:World}(hs:Sat W w (seps [arr p6 0 (iJ iG.z),arr p7 0 [.slice none 0 0],arr p8 0 [.int .i64 0],F])):CallsD Tryz.prog 160 #[ptr p6,ptr p7,ptr p8] (.panicking (tX 260 6)) w (fun e u2 w2=>u2 = .panicking [{v:=.iface 260 (.agg #[.int .i64 6]),recovered:=true }]∧e = .returned (.tuple #[])∧Sat W w2 (seps [arr p6 0 (iJ iG.z),arr p7 0 [.slice none 0 0],arr p8 0 [.int .i64 6],F])):=by
 refine lU (d:=6) (N:=15) (v:=.iface 260 (.agg #[.int .i64 6])) (u2:=.panicking [{v:=.iface 260 (.agg #[.int .i64 6]),recovered:=true }]) (args:=[ptr p6,ptr p7,ptr p8]) func160 rfl ntmps160 rfl rfl rfl (fun c cs hc=>.inl (by simp[recoverD,hc,tX])) hs ?_
 refine J 3 ?_
 refine .p (.KE underlying20 rfl) ?_
 refine J 2 ?_
 refine .jY rfl ?_
 refine J 2 ?_
 refine .p (.GL (r:=.tuple #[.agg #[.int .i64 6],.bool true]) rfl (fun w=>by simp[Instr.typeAssert,run_underlying underlying260])) ?_
 refine .p (.extract (v:=.bool true) rfl rfl) ?_
 refine .p (.extract (v:=.agg #[.int .i64 6]) rfl rfl) ?_
 refine J 2 ?_
 refine .gK rfl ?_
 refine J 2 ?_
 refine .aw rfl (af.alloc rfl zeroValue260 rfl) ?_
 rintro _ _ ⟨b4,rfl,rfl⟩
 refine J 3 ?_
 refine .draw [arr b4 0 [.int .i64 6]] [1,0,0,2,2,3] rfl (by kernel_rfl) ?_
 refine .p (.qO ([(.int .i64 0),(.int .i64 0),(.int .u64 0),(.int .u64 0),(.int .u64 0),(.int .u64 0),(.int .u64 0),(.int .u64 0),(.int .u64 0),(.int .u64 0)]) (by kernel_rfl)) ?_
 refine J 2 ?_
 refine .d2 rfl Kept.auto (af.tP (by exact sizeOf145) rfl rfl rfl (by rfl)) (by rintro _ _ ⟨rfl,rfl⟩;exact Kept.auto) ?_
 rintro _ _ ⟨rfl,rfl⟩
 refine J 4 ?_
 refine .KF fun w s=>⟨rfl,rfl,?_⟩
 first | exact s | exact aK.kept .auto _ s
theorem Ap{W:World}{p6 p7 p8:Nat}{R:List aa}{w:World}(hs:Sat W w (seps ([arr p6 0 (iJ iG.z),arr p7 0 [.slice none 0 0],arr p8 0 [.int .i64 0]]++R))):CallsD Tryz.prog 160 #[ptr p6,ptr p7,ptr p8] (.panicking (tX 260 6)) w (fun e u2 w2=>u2 = .panicking [{v:=.iface 260 (.agg #[.int .i64 6]),recovered:=true }]∧e = .returned (.tuple #[])∧Sat W w2 (seps ([arr p6 0 (iJ iG.z),arr p7 0 [.slice none 0 0],arr p8 0 [.int .i64 6]]++R))) :=
 (C5 (F:=seps R) (hs.eq (by rw[ah];simp only[seps,aP,aN]))).mono fun _ _ _ ⟨a,b,c⟩=>⟨a,b,c.eq (by rw[ah];simp only[seps,aP,aN])⟩
theorem yN{W:World}{A:aa}{f:iG}{i:Ins}{v:Value}{m:List Int}(hr:Rd W [A] bF 1 v m)(hl:m.length≤1000000)(hI:jb i)(hF:AS f)(hc:cls i.op=1):Fn Tryz.prog W 115 [.agg (iJ f).toArray,.agg (dI i).toArray,v] [A] Value (fun u=>.tuple #[.agg (iJ (gd f m i).1).toArray,u,.int .i64 (gd f m i).2.2]) (fun _=>True) (fun u=>[sl bF 1 u (gd f m i).2.1,A]):=by
 refine Fn.Jc (N:=39) func115 rfl ntmps115 rfl fun F=>?_
 haveI hRI:∀ (H:List aa) [bX H A],aI W H v bF 1 m:=fun H h=>⟨hr.at h.has⟩
 show ax _ _ _ _ _ _ [A,F]
 refine J 2 ?_
 refine .aw rfl (af.box rfl rfl rfl) ?_
 rintro _ _ ⟨b3,rfl,rfl⟩
 refine .mem (H':=[arr b3 0 (iJ f),A,F]) (fun w s=>s) ?_
 refine .aw rfl (af.box rfl rfl rfl) ?_
 rintro _ _ ⟨b4,rfl,rfl⟩
 refine .mem (H':=[arr b4 0 (dI i),arr b3 0 (iJ f),A,F]) (fun w s=>s) ?_
 refine .aw rfl (af.alloc rfl zeroValue145 rfl) ?_
 rintro _ _ ⟨b6,rfl,rfl⟩
 refine .aw rfl (af.alloc rfl zeroValue55 rfl) ?_
 rintro _ _ ⟨b7,rfl,rfl⟩
 refine .aw rfl (af.alloc rfl zeroValue28 rfl) ?_
 rintro _ _ ⟨b8,rfl,rfl⟩
 refine J 7 ?_
 refine .c call72 rfl nB fun _ _=>?_
 refine JD 3 (fun h13=>?_) fun h13=>?_
 ·exact absurd hc h13
 ·refine J 4 ?_
  refine .p (.makeFunc rfl rfl) ?_
  refine .I2 rfl ?_
  refine fO.nil ?_
  refine rZ.im ?_
  refine kT.seq ?_
  refine kT.draw [arr b3 0 (iJ f),A] [0,1,1,2,1,3,1] rfl (by kernel_rfl) ?_
  refine fB.k rfl Kept.auto (Y.Gl isAgg145 rfl Cells.a (by exact sizeOf145)) ?_
  refine fB.s rfl (Y.m rfl) ?_
  refine fB.s rfl (Y.DC underlying55 rfl Rd.s) ?_
  refine fB.d2 rfl Kept.auto (af.IY (enc:=bF) (k:=1) 0 m.length rfl underlying55 typeInfo38 rfl rfl rfl rfl (by decide) (by decide) rfl rfl rfl rfl (by omega)) (by rintro _ _ ⟨b19,rfl,rfl⟩;exact Kept.auto) ?_
  rintro _ _ ⟨b19,rfl,rfl⟩
  refine fB.s rfl (Y.gH (fun _ v2=>tW f v2) rfl rfl (by kernel_rfl)) ?_
  refine fB.d3 rfl (af.box rfl rfl rfl) ?_
  rintro _ _ ⟨b21,rfl,rfl⟩
  refine fB.s rfl (Y.a rfl) ?_
  refine fB.nil ?_
  refine rZ.im ?_
  refine kT.seq ?_
  refine kT.region ?_
  refine fO.y rfl (Y.m rfl) ?_
  refine fO.y rfl (Y.n rfl) ?_
  refine fO.y rfl (Y.dc 10 55 underlying263 rfl sizeOf55 rfl) ?_
  refine fO.y rfl (Y.load isAgg55 rfl (Cell.a (by rfl))) ?_
  refine fO.y rfl (Y.m rfl) ?_
  refine fO.aw rfl (af.GM rfl underlying55 sizeOf38 rfl rfl Rd.s .auto (by simp) rfl (nV _)) ?_
  rintro _ _ ⟨rfl,rfl⟩
  refine fO.nil ?_
  refine rZ.im ?_
  refine kT.seq ?_
  refine kT.region ?_
  refine fO.y rfl (Y.m rfl) ?_
  refine fO.y rfl (Y.Gl isAgg131 rfl Cells.a (by exact sizeOf131)) ?_
  refine fO.I3 (fun d h=>by cases h;rfl) call161 rfl (F3 (f:=f) (v:=.slice (some ⟨b19,0,none⟩) m.length m.length) (m:=m) (i:=i) hI hF hl) .auto (fun _ h=>by unfold doEnd at h;split at h <;> cases h) ?_ ?_
  ·rintro⟨⟩ u e -
   obtain⟨z,hz⟩:∃ z,hY f m i=some z:=by
    cases h:hY f m i with
    | none=>rw[h] at e;cases e
    | some z=>exact⟨z,rfl⟩
   rw[hz] at e
   cases e
   rw[show LI b21 (.slice (some ⟨b19,0,none⟩) m.length m.length) (hY f m i)=[arr b21 0 (tW z.1 (.slice (some ⟨b19,0,none⟩) m.length m.length)),sl bF 1 (.slice (some ⟨b19,0,none⟩) m.length m.length) z.2] from by rw[hz];rfl]
   refine fO.nil ?_
   refine rZ.im ?_
   refine kT.seq ?_
   refine kT.draw [arr b21 0 (tW z.1 (.slice (some ⟨b19,0,none⟩) m.length m.length))] [1,1,1,1,0,0,0,0,2,3,3] rfl (by kernel_rfl) ?_
   refine fB.s rfl (Y.m rfl) ?_
   refine fB.s rfl (Y.n rfl) ?_
   refine fB.s rfl (Y.iU 145 underlying263 rfl sizeOf145 rfl) ?_
   refine fB.s rfl (Y.Gl isAgg145 rfl (Cells.jA (ds:=iJ z.1) Cells.a rfl) (by exact sizeOf145)) ?_
   refine fB.k rfl Kept.auto (Y.m rfl) ?_
   refine fB.k rfl Kept.auto (Y.n rfl) ?_
   refine fB.k rfl Kept.auto (Y.dc 10 55 underlying263 rfl sizeOf55 rfl) ?_
   refine fB.k rfl Kept.auto (Y.load isAgg55 rfl (Cell.a (by rfl))) ?_
   refine fB.d2 rfl Kept.auto (af.tP (by exact sizeOf145) rfl rfl rfl (by rfl)) (by rintro _ _ ⟨rfl,rfl⟩;exact Kept.auto) ?_
   rintro _ _ ⟨rfl,rfl⟩
   refine fB.d3 rfl (af.pz sizeOf55 rfl rfl rfl) ?_
   rintro _ _ ⟨rfl,rfl⟩
   refine fB.d3 rfl (af.st sizeOf28 rfl rfl rfl rfl) ?_
   rintro _ _ ⟨rfl,rfl⟩
   refine fB.nil ?_
   refine rZ.im ?_
   refine kT.ret ?_
   refine fun a w ha s=>?_
   show Leaves Tryz.prog Tryz.f115 a.tmps _ a.defers .returning w
   rw[ha.defers]
   refine leaves_cons (by intro h;cases h) (by simp[invoke,call160]) ((C4 (p6:=b6) (p7:=b7) (p8:=b8) s).mono ?_)
   rintro e2 u2 w2 ⟨rfl,rfl,s2⟩
   exact⟨_,(tY ha s2 rfl rfl rfl rfl isAgg145 (by exact sizeOf145) isAgg55 isAgg28 Cells.a (Cell.a rfl) (Cell.a rfl)),.slice (some ⟨b19,0,none⟩) m.length m.length,by rw[gd,hz],trivial,by rw[gd,hz];exact ar .auto s2⟩
  ·rintro⟨⟩ c e -
   have hz:hY f m i=none:=by
    cases h:hY f m i with
    | none=>rfl
    | some z=>rw[h] at e;cases e
   rw[hz] at e
   cases e
   rw[show LI b21 (.slice (some ⟨b19,0,none⟩) m.length m.length) (hY f m i)=[] from by rw[hz];rfl]
   refine fun a w ha s=>?_
   show Leaves Tryz.prog Tryz.f115 a.tmps _ a.defers (.panicking (tX 260 6)) w
   rw[ha.defers]
   have s1:=aK.sat (As:=[arr b6 0 (iJ iG.z),arr b7 0 [.slice none 0 0],arr b8 0 [.int .i64 0]]) .auto s
   refine leaves_cons (by intro h;cases h) (by simp[invoke,call160]) ((Ap (p6:=b6) (p7:=b7) (p8:=b8) s1).mono ?_)
   rintro e2 u2 w2 ⟨rfl,rfl,s2⟩
   exact⟨_,(tY ha s2 rfl rfl rfl rfl isAgg145 (by exact sizeOf145) isAgg55 isAgg28 Cells.a (Cell.a rfl) (Cell.a rfl)),.slice none 0 0,by rw[gd,hz],trivial,by rw[gd,hz];exact ar .auto s2⟩
end Go.SLYtefdijgllbkmfaaGreat
namespace Go.SLYtefdijgllbkmfaaGreat
open Go Go.RowKit Go.Proofs Go.Proofs.Tryz
attribute [local irreducible] ax aQ bu cj bQ Y
theorem kJ{W:World}{bd b p q:Nat}{ps:List (Option Nat)}{d:Dng}{t:bo}{n:Int}(h0:0≤n)(hp:ps[n.toNat]?=some (some q))(ht:d.s.thr[n.toNat]?=some (some t))(hn16:n.toNat<16)(hR:gR t)(he:d.ends.length≤1000000)(hw:d.out.aM.length≤1000000){y:Int}:Fn Tryz.prog W 114 [ptr bd,.int .i64 n,.int .u64 y] [bB bd b p ps d] Unit (fun _=>.tuple #[]) (fun _=>True) (fun _=>[bB bd b p ps (d.dZ n.toNat y)]):=by
 have:=FZ (W:=W) (bd:=bd) (b:=b) (p:=p) hp ht hn16 hR he hw (y:=y)
 rwa [show((n.toNat:Nat):Int)=n from by omega] at this
theorem rk{W:World}{bd b p:Nat}{ps:List (Option Nat)}{d:Dng}{t:bo}(hp:ps[d.n]?=some (some p))(ht:d.s.thr[d.n]?=some (some t)){v:Int}(hl:d.s.thr.length=16)(hpl:ps.length=16)(hT:iX d.s.table)(hR:gR t)(he:d.ends.length≤1000000)(hw:d.out.aM.length≤1000000)(hj:¬t.av = -1→0≤t.av∧t.av.toNat≠d.n∧bZ ps d.s t.av.toNat):Fn Tryz.prog W 83 [ptr bd,.int .u64 v] [bB bd b p ps d] (List (Option Nat)) (fun _=>.tuple #[]) (fun _=>True) (fun qs=>[bB bd b p qs (d.fin v)]):=by
 refine Fn.intro (N:=66) func83 rfl ntmps83 rfl fun F=>?_
 show ax _ _ _ _ _ _ [bB bd b p ps d,F]
 refine .o2 (C:=bB bd b p ps d) .auto rfl ?_
 rintro vw ve -
 refine .jq (C:=dt b ps d.s) .auto rfl ?_
 rintro fv sv pv bt vm bg vt bk bw vr -
 refine .fr .auto (cq hp ht) ?_
 refine J 7 ?_
 rw[Cl]
 refine JD 15 (fun h21=>?_) fun h21=>?_
 ·refine .to (A:=aE ps d.s.thr) (Bs:=[arr p 0 (bz t),aE (ps.set d.n none) (d.s.thr.set d.n none)]) .auto (cz hp ht) ?_
  refine .draw [arr bd 0 (eA b p (d.ended) vw ve)] [1,1,1,1,1,1,1,1,3] rfl (by kernel_rfl) ?_
  refine J 8 ?_
  refine .c call113 rfl (mN hp ht hl hpl hT hR.h.1) fun _ _=>?_
  refine J 2 ?_
  rw[vU ht h21]
  refine .Dy rfl fun w s=>⟨ps.set d.n none,?_,trivial,ar .auto s⟩
  rfl
 ·refine JD 13 (fun h38=>?_) fun h38=>?_
  ·refine J 11 ?_
   obtain⟨hj0,hjn,hj16,q,tj,hq,htj,hRj⟩:=hj h38
   refine .to (A:=aE ps d.s.thr) (Bs:=[arr p 0 (bz t),aE (ps.set d.n none) (d.s.thr.set d.n none)]) .auto (cz hp ht) ?_
   refine .c call114 rfl (kJ (d:=d.ended) hj0 hq htj hj16 hRj he hw) fun _ _=>?_
   refine .o2 (C:=bB bd b p ps (d.ended.dZ t.av.toNat v)) .auto rfl ?_
   rintro vw ve -
   have ht2:(d.ended.dZ t.av.toNat v).s.thr[d.n]?=some (some t):=Ep ht hjn
   refine J 2 ?_
   refine .draw [arr bd 0 (eA b p (d.ended.dZ t.av.toNat v) vw ve)] [1,1,1,1,1,1,1,1,3] rfl (by kernel_rfl) ?_
   refine J 8 ?_
   refine .c call113 rfl (mN (s:=(d.ended.dZ t.av.toNat v).s) hp ht2 (by simp[Dng.dZ,Spc.dn,Spc.aj,Dng.ended,hl]) hpl hT hR.h.1) fun _ _=>?_
   refine J 2 ?_
   rw[si ht h21 h38]
   refine .Dy rfl fun w s=>⟨ps.set d.n none,?_,trivial,ar .auto s⟩
   rfl
  ·have h38:t.av = -1:=Decidable.byContradiction h38
   refine .draw [arr bd 0 (eA b p (d.ended) vw ve)] [1,1,1,1,1,1,1,1,0,1,1,2,1,1,3] rfl (by kernel_rfl) ?_
   refine J 12 ?_
   rw[ov]
   refine J 3 ?_
   rw[Ck]
   refine J 2 ?_
   rw[sf ht h21 h38]
   refine .to (A:=aE ps (d.s.thr.set d.n (some ({t with why:=9,value:=v })))) (Bs:=[arr p 0 (bz ({t with why:=9,value:=v })),aE (ps.set d.n none) (d.s.thr.set d.n none)]) .auto (cY (List.getElem?_eq_some_iff.1 ht).1 hp) ?_
   exact JR 0 ps
theorem qh{W:World}{bd b p:Nat}{ps:List (Option Nat)}{d:Dng}{n:Int}{ok:Bool}(hg:ok=true→0≤n∧bZ ps d.s n.toNat)(he:d.ends.length≤1000000)(hw:d.out.aM.length≤1000000):Fn Tryz.prog W 167 [ptr bd,.int .i64 n,.bool ok] [bB bd b p ps d] Unit (fun _=>.tuple #[]) (fun _=>True) (fun _=>[bB bd b p ps (d.given n ok)]):=by
 refine Fn.intro (N:=10) func167 rfl ntmps167 rfl fun F=>?_
 show ax _ _ _ _ _ _ [bB bd b p ps d,F]
 refine JD 5 (fun h6=>?_) fun h6=>?_
 ·refine J 1 ?_
  obtain⟨h0,hn16,q,t,hq,ht,hR⟩:=hg h6
  refine J 2 ?_
  refine .c call114 rfl (kJ h0 hq ht hn16 hR he hw) fun _ _=>?_
  refine J 1 ?_
  rw[show d.given n ok=d.dZ n.toNat 0 from by unfold Dng.given;rw[if_pos h6]]
  exact JR 0 ()
 ·refine J 1 ?_
  rw[show d.given n ok=d from by unfold Dng.given;rw[if_neg (by rw[h6];simp)]]
  exact JR 0 ()
theorem C6{W:World}{bd b p:Nat}{ps:List (Option Nat)}{d:Dng}{t:bo}(hp:ps[d.n]?=some (some p))(ht:d.s.thr[d.n]?=some (some t))(hI:jb d.i)(hF:AS t.hZ)(hc:cls d.i.op=1)(hm:d.s.mem.length≤1000000)(hr:d.s.au.length≤1000000000)(hl:d.s.thr.length=16)(hpl:ps.length=16)(hT:iX d.s.table)(hR:gR t)(he:d.ends.length≤1000000)(hw:d.out.aM.length≤1000000)(hj:¬t.av = -1→0≤t.av∧t.av.toNat≠d.n∧bZ ps d.s t.av.toNat):Fn Tryz.prog W 84 [ptr bd] [bB bd b p ps d] (List (Option Nat)) (fun _=>.tuple #[]) (fun _=>True) (fun qs=>[bB bd b p qs d.plain]):=by
 refine Fn.intro (N:=124) func84 rfl ntmps84 rfl fun F=>?_
 show ax _ _ _ _ _ _ [bB bd b p ps d,F]
 refine .o2 (C:=bB bd b p ps d) .auto rfl ?_
 rintro vw ve -
 refine .jq (C:=dt b ps d.s) .auto rfl ?_
 rintro fv sv pv bt vm bg vt bk bw vr -
 refine .fr .auto (cq hp ht) ?_
 have hIa:=hI.a
 have hIb:=hI.b
 have hb:d.b=t.aq.getD d.i.b.toNat 0:=by unfold Dng.b;rw[ck ht];rfl
 have ha:d.a=t.aq.getD d.i.a.toNat 0:=by unfold Dng.a;rw[ck ht];rfl
 have hbr:=hR.r d.i.b.toNat
 refine J 1 ?_
 refine .draw [] [1,1,1,1,1,1,1,1,1,1,1,1,1,1,1,1,1,1,1,1,1,1,1,1,1,1,1,1,1,1] rfl (by kernel_rfl) ?_
 refine J 12 ?_
 refine .p (.aD d.i.a.toNat underlying39 sizeOf38 rfl rfl (by omega) (by omega)) ?_
 refine .p (.ld rfl (Cell.a (mC (by omega)))) ?_
 refine J 12 ?_
 refine .p (.aD d.i.b.toNat underlying39 sizeOf38 rfl rfl (by omega) (by omega)) ?_
 refine .p (.ld rfl (Cell.a (mC (by omega)))) ?_
 refine J 5 ?_
 refine .xj [arr bd 0 (eA b p d vw ve),arr b 0 (fM fv sv pv d.s.dK bt ps vm bg vt bk bw vr),arr p 0 (bz t),sl bF 1 vm d.s.mem] [0,0,0,0,0,0,0,0,0,0,0,0,0,0,0,0,0,0,2,0,0,0,0,4,2,0,0] [0,1,2,3,4,5,6,7,8,9,10,11,12,13,14,15,16,17,18,19,20,21,22,23,24,25,26] rfl (by kernel_rfl) ?_
 refine bQ.q rfl rfl rfl Kept.auto (Y.m rfl) ?_
 refine bQ.q rfl rfl rfl Kept.auto (Y.n rfl) ?_
 refine bQ.q rfl rfl rfl Kept.auto (Y.dc 2 122 underlying161 rfl sizeOf122 rfl) ?_
 refine bQ.q rfl rfl rfl Kept.auto (Y.load isAgg122 rfl (Cell.a (by rfl))) ?_
 refine bQ.q rfl rfl rfl Kept.auto (Y.n rfl) ?_
 refine bQ.q rfl rfl rfl Kept.auto (Y.iU 145 underlying147 rfl sizeOf145 rfl) ?_
 refine bQ.q rfl rfl rfl Kept.auto (Y.Gl isAgg145 rfl (Cells.jA (ds:=iJ t.hZ) (Cells.a (cs:=bz t)) rfl) (by exact sizeOf145)) ?_
 refine bQ.q rfl rfl rfl Kept.auto (Y.m rfl) ?_
 refine bQ.q rfl rfl rfl Kept.auto (Y.n rfl) ?_
 refine bQ.q rfl rfl rfl Kept.auto (Y.dc 3 131 underlying161 rfl sizeOf131 rfl) ?_
 refine bQ.q rfl rfl rfl Kept.auto (Y.Gl isAgg131 rfl (Cells.jA (ds:=dI d.i) (Cells.a (cs:=eA b p d vw ve)) rfl) (by exact sizeOf131)) ?_
 refine bQ.q rfl rfl rfl Kept.auto (Y.m rfl) ?_
 refine bQ.q rfl rfl rfl Kept.auto (Y.n rfl) ?_
 refine bQ.q rfl rfl rfl Kept.auto (Y.iU 27 underlying161 rfl sizeOf27 rfl) ?_
 refine bQ.q rfl rfl rfl Kept.auto (Y.load isAgg27 rfl (Cell.a (by rfl))) ?_
 refine bQ.q rfl rfl rfl Kept.auto (Y.n rfl) ?_
 refine bQ.q rfl rfl rfl Kept.auto (Y.dc 25 55 underlying126 rfl sizeOf55 rfl) ?_
 refine bQ.q rfl rfl rfl Kept.auto (Y.load isAgg55 rfl (Cell.a (by rfl))) ?_
 refine bQ.eO rfl (.inl rfl) rfl (fun _=>Kept.auto) call115 rfl (yN (A:=sl bF 1 vm d.s.mem) Rd.s hm hI hF hc) .auto (fun _ _=>Kept.auto) ?_
 rintro u5 -
 refine bQ.q rfl rfl rfl Kept.auto (Y.m rfl) ?_
 refine bQ.q rfl rfl rfl Kept.auto (Y.extract (v:=.agg (iJ (gd t.hZ d.s.mem d.i).1).toArray) rfl rfl) ?_
 refine bQ.q rfl rfl rfl Kept.auto (Y.extract (v:=u5) rfl rfl) ?_
 refine bQ.q rfl rfl rfl Kept.auto (Y.extract (v:=.int .i64 (gd t.hZ d.s.mem d.i).2.2) rfl rfl) ?_
 refine bQ.fresh rfl rfl rfl (by decide) Kept.auto (qu zeroValue145 rfl) ?_
 rintro b4
 refine bQ.KG rfl rfl (by exact sizeOf145) rfl rfl rfl (by rfl) Kept.auto Kept.auto ?_
 refine bQ.q rfl rfl rfl Kept.auto (Y.a rfl) ?_
 refine bQ.q rfl rfl rfl Kept.auto (Y.a rfl) ?_
 refine bQ.nil ?_
 refine J 12 ?_
 apply aQ.fZ 3 68 65 [65,66,67,68] rfl
 ·intro h65
  exact JS 4
 ·intro h65
  exact JS 4
 refine JD 3 (fun h58=>?_) fun h58=>?_
 ·simp only[Bool.and_eq_true,decide_eq_true_eq] at h58
  obtain⟨h1,h0⟩:=h58
  obtain⟨z,hz⟩:=nm h0
  rw[kV hz]
  have hlt:t.aq.getD d.i.b.toNat 0<d.s.mem.length:=Es hz h1
  refine J 11 ?_
  refine .p (.ig (t.aq.getD d.i.b.toNat 0).toNat underlying55 sizeOf38 rfl rfl Rd.s (by omega) (by omega)) ?_
  refine .p (.ld rfl (Cell.za Rd.s (getD_some (d:=(0:Int)) (show(t.aq.getD d.i.b.toNat 0).toNat<d.s.mem.length by omega)) (by rfl))) ?_
  refine .to (A:=aE ps d.s.thr) (Bs:=[arr p 0 (bz t),aE (ps.set d.n none) (d.s.thr.set d.n none)]) .auto (cz hp ht) ?_
  refine J 1 ?_
  refine .c call82 rfl (jo hp ht hr) fun _ _=>?_
  refine J 10 ?_
  refine .jY rfl ?_
  refine J 2 ?_
  refine .o2 (C:=bB bd b p ps (d.tell (t.aq.getD d.i.b.toNat 0) (d.s.mem.getD (t.aq.getD d.i.b.toNat 0).toNat 0) 0 true)) .auto rfl ?_
  rintro vw ve -
  refine .jq (C:=dt b ps (d.tell (t.aq.getD d.i.b.toNat 0) (d.s.mem.getD (t.aq.getD d.i.b.toNat 0).toNat 0) 0 true).s) .auto rfl ?_
  rintro fv sv pv bt vm bg vt bk bw vr -
  refine .fr .auto (cq hp (show(d.tell (t.aq.getD d.i.b.toNat 0) (d.s.mem.getD (t.aq.getD d.i.b.toNat 0).toNat 0) 0 true).s.thr[(d.tell (t.aq.getD d.i.b.toNat 0) (d.s.mem.getD (t.aq.getD d.i.b.toNat 0).toNat 0) 0 true).n]?=some (some t) from ht)) ?_
  refine .draw [arr bd 0 (eA b p (d.tell (t.aq.getD d.i.b.toNat 0) (d.s.mem.getD (t.aq.getD d.i.b.toNat 0).toNat 0) 0 true) vw ve),arr b4 0 (iJ z.1)] [1,1,1,1,1,1,1,1,1,0,1,1,2,1,1,3] rfl (by kernel_rfl) ?_
  refine J 12 ?_
  refine .d2 rfl Kept.auto (af.Kj (vs:=iJ z.1) (by exact sizeOf145) rfl rfl rfl rfl) (by rintro _ _ ⟨rfl,rfl⟩;exact Kept.auto) ?_
  rintro _ _ ⟨rfl,rfl⟩
  rw[sj]
  refine J 2 ?_
  refine .d3 rfl (af.pz sizeOf55 rfl rfl rfl) ?_
  rintro _ _ ⟨rfl,rfl⟩
  rw[vT]
  refine J 1 ?_
  refine .to (A:=aE ps ((d.tell (t.aq.getD d.i.b.toNat 0) (d.s.mem.getD (t.aq.getD d.i.b.toNat 0).toNat 0) 0 true).s.thr.set (d.tell (t.aq.getD d.i.b.toNat 0) (d.s.mem.getD (t.aq.getD d.i.b.toNat 0).toNat 0) 0 true).n (some (t.lR z.1)))) (Bs:=[arr p 0 (bz (t.lR z.1)),aE (ps.set (d.tell (t.aq.getD d.i.b.toNat 0) (d.s.mem.getD (t.aq.getD d.i.b.toNat 0).toNat 0) 0 true).n none) ((d.tell (t.aq.getD d.i.b.toNat 0) (d.s.mem.getD (t.aq.getD d.i.b.toNat 0).toNat 0) 0 true).s.thr.set (d.tell (t.aq.getD d.i.b.toNat 0) (d.s.mem.getD (t.aq.getD d.i.b.toNat 0).toNat 0) 0 true).n none)]) .auto (cY (List.getElem?_eq_some_iff.1 ht).1 hp) ?_
  rw[jG ht hz,show d.told=d.tell (t.aq.getD d.i.b.toNat 0) (d.s.mem.getD (t.aq.getD d.i.b.toNat 0).toNat 0) 0 true from by unfold Dng.told;rw[if_pos h1,hb]]
  exact JR 0 ps
 ·simp only[Bool.and_eq_false_iff,decide_eq_false_iff_not] at h58
  refine JD 11 (fun h83=>?_) fun h83=>?_
  ·have hz:=pM (h58.resolve_left (fun h=>h h83))
   rw[sk hz]
   refine J 1 ?_
   refine .to (A:=aE ps d.s.thr) (Bs:=[arr p 0 (bz t),aE (ps.set d.n none) (d.s.thr.set d.n none)]) .auto (cz hp ht) ?_
   refine J 3 ?_
   refine .c call82 rfl (jo hp ht hr) fun _ _=>?_
   refine J 10 ?_
   refine .gK rfl ?_
   refine J 3 ?_
   refine .c call83 rfl (rk (d:=(d.tell (t.aq.getD d.i.b.toNat 0) 0 6 true)) hp ht hl hpl hT hR he hw hj) fun qs _=>?_
   refine J 4 ?_
   rw[lX ht hz,if_pos h83,hb]
   exact JR 0 qs
  ·refine JD 11 (fun h94=>?_) fun h94=>?_
   ·refine J 1 ?_
    refine .to (A:=aE ps d.s.thr) (Bs:=[arr p 0 (bz t),aE (ps.set d.n none) (d.s.thr.set d.n none)]) .auto (cz hp ht) ?_
    refine J 4 ?_
    refine .c call82 rfl (jo hp ht hr) fun _ _=>?_
    refine JD 10 (fun h107=>?_) fun h107=>?_
    ·have hz:=pM h107
     rw[sk hz]
     refine J 3 ?_
     refine .c call83 rfl (rk (d:=(d.tell (t.aq.getD d.i.a.toNat 0) (t.aq.getD d.i.b.toNat 0) 6 true)) hp ht hl hpl hT hR he hw hj) fun qs _=>?_
     refine J 4 ?_
     rw[lX ht hz,if_neg h83,ha,hb]
     exact JR 0 qs
    ·obtain⟨z,hz⟩:=nm (Decidable.not_not.mp h107)
     rw[kV hz]
     refine J 2 ?_
     refine .o2 (C:=bB bd b p ps (d.tell (t.aq.getD d.i.a.toNat 0) (t.aq.getD d.i.b.toNat 0) 0 true)) .auto rfl ?_
     rintro vw ve -
     refine .jq (C:=dt b ps (d.tell (t.aq.getD d.i.a.toNat 0) (t.aq.getD d.i.b.toNat 0) 0 true).s) .auto rfl ?_
     rintro fv sv pv bt vm bg vt bk bw vr -
     refine .fr .auto (cq hp (show(d.tell (t.aq.getD d.i.a.toNat 0) (t.aq.getD d.i.b.toNat 0) 0 true).s.thr[(d.tell (t.aq.getD d.i.a.toNat 0) (t.aq.getD d.i.b.toNat 0) 0 true).n]?=some (some t) from ht)) ?_
     refine .draw [arr bd 0 (eA b p (d.tell (t.aq.getD d.i.a.toNat 0) (t.aq.getD d.i.b.toNat 0) 0 true) vw ve),arr b4 0 (iJ z.1)] [1,1,1,1,1,1,1,1,1,0,1,1,2,1,1,3] rfl (by kernel_rfl) ?_
     refine J 12 ?_
     refine .d2 rfl Kept.auto (af.Kj (vs:=iJ z.1) (by exact sizeOf145) rfl rfl rfl rfl) (by rintro _ _ ⟨rfl,rfl⟩;exact Kept.auto) ?_
     rintro _ _ ⟨rfl,rfl⟩
     rw[sj]
     refine J 2 ?_
     refine .d3 rfl (af.pz sizeOf55 rfl rfl rfl) ?_
     rintro _ _ ⟨rfl,rfl⟩
     rw[vT]
     refine J 1 ?_
     refine .to (A:=aE ps ((d.tell (t.aq.getD d.i.a.toNat 0) (t.aq.getD d.i.b.toNat 0) 0 true).s.thr.set (d.tell (t.aq.getD d.i.a.toNat 0) (t.aq.getD d.i.b.toNat 0) 0 true).n (some (t.lR z.1)))) (Bs:=[arr p 0 (bz (t.lR z.1)),aE (ps.set (d.tell (t.aq.getD d.i.a.toNat 0) (t.aq.getD d.i.b.toNat 0) 0 true).n none) ((d.tell (t.aq.getD d.i.a.toNat 0) (t.aq.getD d.i.b.toNat 0) 0 true).s.thr.set (d.tell (t.aq.getD d.i.a.toNat 0) (t.aq.getD d.i.b.toNat 0) 0 true).n none)]) .auto (cY (List.getElem?_eq_some_iff.1 ht).1 hp) ?_
     rw[jG ht hz,show d.told=d.tell (t.aq.getD d.i.a.toNat 0) (t.aq.getD d.i.b.toNat 0) 0 true from by unfold Dng.told;rw[if_neg h83,if_pos h94,ha,hb]]
     exact JR 0 ps
   ·refine JD 10 (fun h107=>?_) fun h107=>?_
    ·exact absurd (Er (pM h107)) (by omega)
    ·obtain⟨z,hz⟩:=nm (Decidable.not_not.mp h107)
     rw[kV hz]
     refine J 2 ?_
     refine .draw [arr bd 0 (eA b p (d) vw ve),arr b4 0 (iJ z.1)] [1,1,1,1,1,1,1,1,1,0,1,1,2,1,1,3] rfl (by kernel_rfl) ?_
     refine J 12 ?_
     refine .d2 rfl Kept.auto (af.Kj (vs:=iJ z.1) (by exact sizeOf145) rfl rfl rfl rfl) (by rintro _ _ ⟨rfl,rfl⟩;exact Kept.auto) ?_
     rintro _ _ ⟨rfl,rfl⟩
     rw[sj]
     refine J 2 ?_
     refine .d3 rfl (af.pz sizeOf55 rfl rfl rfl) ?_
     rintro _ _ ⟨rfl,rfl⟩
     rw[vT]
     refine J 1 ?_
     refine .to (A:=aE ps ((d).s.thr.set (d).n (some (t.lR z.1)))) (Bs:=[arr p 0 (bz (t.lR z.1)),aE (ps.set (d).n none) ((d).s.thr.set (d).n none)]) .auto (cY (List.getElem?_eq_some_iff.1 ht).1 hp) ?_
     rw[jG ht hz,show d.told=d from by unfold Dng.told;rw[if_neg h83,if_neg h94]]
     exact JR 0 ps
end Go.SLYtefdijgllbkmfaaGreat
namespace Go.SLYtefdijgllbkmfaaGreat
open Go Go.RowKit Go.Proofs Go.Proofs.Tryz
attribute [local irreducible] ax aQ bu cj bQ Y
theorem C7{W:World}{b:Nat}{g:Gates}{who m:Int}(hg:gM g):Fn Tryz.prog W 165 [ptr b,.int .i64 who,.int .i64 m] [cX b g] Unit (fun _=>.tuple #[.bool (g.lock who m).1,.int .i64 (g.lock who m).2.1]) (fun _=>True) (fun _=>[cX b (g.lock who m).2.2]):=by
 refine Fn.intro (N:=27) func165 rfl ntmps165 rfl fun F=>?_
 show ax _ _ _ _ _ _ [cX b g,F]
 refine .o3 (C:=cX b g) .auto rfl ?_
 rintro vm vc vs -
 refine J 10 ?_
 refine .c call207 rfl lq fun _ _=>?_
 refine JD 12 (fun h12=>?_) fun h12=>?_
 ·refine J 9 ?_
  rw[tZ (fP h12)]
  exact JR 0 ()
 ·refine J 2 ?_
  have hmhx:=fC h12
  rw[fk hmhx]
  obtain⟨x,hx,hgx⟩:=cp hmhx
  refine J 2 ?_
  refine .c call208 rfl (nD hg) fun _ _=>?_
  refine .fr .auto (og hx) ?_
  refine J 1 ?_
  apply aQ.gj 4 23 19 [19,20,21,22,23] rfl
  ·intro h19
   refine J 2 ?_
   refine .cg call209 rfl tf fun _ _=>?_
   exact JS 2
  ·intro h19
   exact JS 5
  refine JD 3 (fun h15=>?_) fun h15=>?_
  ·refine J 9 ?_
   rw[qw hgx h15]
   refine .to (A:=ep vm g.aF) (Bs:=[ey (blk vm) (cC vm+m.toNat * 3) x,qQ vm g.aF m.toNat]) .auto (oh hx) ?_
   exact JR 0 ()
  ·refine J 7 ?_
   refine .c call171 rfl (tg (Nat.le_trans (hg.mw x (List.mem_of_getElem? hx)) (by decide))) fun _ _=>?_
   refine J 5 ?_
   rw[ub hgx h15]
   refine .to (A:=ep vm (g.aF.set m.toNat (x.lock who).2)) (Bs:=[ey (blk vm) (cC vm+m.toNat * 3) (x.lock who).2,qQ vm g.aF m.toNat]) .auto (r8 (x.lock who).2) ?_
   exact JR 0 ()
theorem yO{W:World}{b:Nat}{g:Gates}{who m c:Int}(hg:gM g):Fn Tryz.prog W 166 [ptr b,.int .i64 who,.int .i64 m,.int .i64 c] [cX b g] Unit (fun _=>.tuple #[.int .i64 (g.unlock who m c).1,.bool (g.unlock who m c).2.1,.int .i64 (g.unlock who m c).2.2.1]) (fun _=>True) (fun _=>[cX b (g.unlock who m c).2.2.2]):=by
 refine Fn.intro (N:=33) func166 rfl ntmps166 rfl fun F=>?_
 show ax _ _ _ _ _ _ [cX b g,F]
 refine .o3 (C:=cX b g) .auto rfl ?_
 rintro vm vc vs -
 refine J 11 ?_
 refine .c call207 rfl lq fun _ _=>?_
 refine JD 12 (fun h17=>?_) fun h17=>?_
 ·refine J 10 ?_
  rw[qx (fP h17)]
  refine .lK rfl rfl rfl rfl fun w s=>⟨(),?_,trivial,ar .auto s⟩
  rfl
 ·refine J 2 ?_
  have hmhx:=fC h17
  rw[fk hmhx]
  obtain⟨x,hx,hgx⟩:=cp hmhx
  refine .fr .auto (og hx) ?_
  refine J 2 ?_
  refine .c call209 rfl tf fun _ _=>?_
  refine JD 4 (fun h20=>?_) fun h20=>?_
  ·refine J 10 ?_
   rw[oq hgx (by simpa using h20)]
   refine .to (A:=ep vm g.aF) (Bs:=[ey (blk vm) (cC vm+m.toNat * 3) x,qQ vm g.aF m.toNat]) .auto (oh hx) ?_
   refine .lK rfl rfl rfl rfl fun w s=>⟨(),?_,trivial,ar .auto s⟩
   rfl
  ·refine J 7 ?_
   refine .c call210 rfl (py (hg.mw x (List.mem_of_getElem? hx))) fun _ _=>?_
   refine J 17 ?_
   rw[qy hgx (by simpa using h20)]
   refine .to (A:=ep vm (g.aF.set m.toNat (x.unlock c).2.2)) (Bs:=[ey (blk vm) (cC vm+m.toNat * 3) (x.unlock c).2.2,qQ vm g.aF m.toNat]) .auto (r8 (x.unlock c).2.2) ?_
   refine .lK rfl rfl rfl rfl fun w s=>⟨(),?_,trivial,ar .auto s⟩
   rfl
theorem C8{W:World}{b:Nat}{g:Gates}{who c m ch:Int}(hg:gM g):Fn Tryz.prog W 168 [ptr b,.int .i64 who,.int .i64 c,.int .i64 m,.int .i64 ch] [cX b g] Unit (fun _=>.tuple #[.int .i64 (g.wait who c m ch).1,.bool (g.wait who c m ch).2.1,.int .i64 (g.wait who c m ch).2.2.1]) (fun _=>True) (fun _=>[cX b (g.wait who c m ch).2.2.2]):=by
 refine Fn.intro (N:=52) func168 rfl ntmps168 rfl fun F=>?_
 show ax _ _ _ _ _ _ [cX b g,F]
 refine .o3 (C:=cX b g) .auto rfl ?_
 rintro vm vc vs -
 refine J 11 ?_
 refine .c call207 rfl lq fun _ _=>?_
 refine J 2 ?_
 refine .c call169 rfl u6 fun _ _=>?_
 refine J 11 ?_
 apply aQ.gj 3 29 26 [26,27,28,29] rfl
 ·intro h26
  exact JS 4
 ·intro h26
  exact JS 4
 refine JD 3 (fun h23=>?_) fun h23=>?_
 ·have hw:g.wait who c m ch=(0,false,1,g):=by
   rcases(Bool.or_eq_true _ _).mp h23 with h | h
   ·exact ni (fP h)
   ·exact nj (fP h)
  refine J 10 ?_
  rw[hw]
  refine .lK rfl rfl rfl rfl fun w s=>⟨(),?_,trivial,ar .auto s⟩
  rfl
 ·refine J 2 ?_
  rw[Bool.or_eq_false_iff] at h23
  have hmhx:=fC h23.1
  rw[fk hmhx]
  obtain⟨x,hx,hgx⟩:=cp hmhx
  have hmhr:=fC h23.2
  rw[fk hmhr]
  obtain⟨r,hr,hgr⟩:=cp hmhr
  refine J 2 ?_
  refine .c call208 rfl (nD hg) fun _ _=>?_
  refine JD 3 (fun h30=>?_) fun h30=>?_
  ·refine J 10 ?_
   rw[xF hgx hgr h30]
   refine .lK rfl rfl rfl rfl fun w s=>⟨(),?_,trivial,ar .auto s⟩
   rfl
  ·refine J 2 ?_
   refine .fr .auto (og hx) ?_
   refine J 2 ?_
   refine .c call209 rfl tf fun _ _=>?_
   refine JD 4 (fun h34=>?_) fun h34=>?_
   ·refine J 10 ?_
    rw[nk hgx hgr h30 (by simpa using h34)]
    refine .to (A:=ep vm g.aF) (Bs:=[ey (blk vm) (cC vm+m.toNat * 3) x,qQ vm g.aF m.toNat]) .auto (oh hx) ?_
    refine .lK rfl rfl rfl rfl fun w s=>⟨(),?_,trivial,ar .auto s⟩
    rfl
   ·refine J 7 ?_
    refine .c call210 rfl (py (hg.mw x (List.mem_of_getElem? hx))) fun _ _=>?_
    refine J 9 ?_
    refine .to (A:=ep vm (g.aF.set m.toNat (x.unlock ch).2.2)) (Bs:=[ey (blk vm) (cC vm+m.toNat * 3) (x.unlock ch).2.2,qQ vm g.aF m.toNat]) .auto (r8 (x.unlock ch).2.2) ?_
    refine .fr .auto (AV hr) ?_
    refine J 3 ?_
    refine .p (.gH (fun v1 v2=>[v1,v2]) rfl rfl (by kernel_rfl)) ?_
    refine .c call211 rfl (wU (x:=⟨who,m⟩) (Nat.le_trans (hg.cw r (List.mem_of_getElem? hr)) (by decide))) fun _ _=>?_
    refine J 12 ?_
    rw[pK hgx hgr h30 (by simpa using h34)]
    refine .to (A:=ik vc (g.bn.set c.toNat (r++[⟨who,m⟩]))) (Bs:=[iB (blk vc) (cC vc+c.toNat * 1) (r++[⟨who,m⟩]),Ci vc g.bn c.toNat]) .auto (Eh (r++[⟨who,m⟩])) ?_
    refine .lK rfl rfl rfl rfl fun w s=>⟨(),?_,trivial,ar .auto s⟩
    rfl
theorem C9{W:World}{b:Nat}{g:Gates}{who s:Int}(hg:gM g)(hc:∀ x∈g.cf,0≤x.count∧x.count≤1048576):Fn Tryz.prog W 174 [ptr b,.int .i64 who,.int .i64 s] [cX b g] Unit (fun _=>.tuple #[.bool (g.down who s).1,.int .i64 (g.down who s).2.1]) (fun _=>True) (fun _=>[cX b (g.down who s).2.2]):=by
 refine Fn.intro (N:=38) func174 rfl ntmps174 rfl fun F=>?_
 show ax _ _ _ _ _ _ [cX b g,F]
 refine .o3 (C:=cX b g) .auto rfl ?_
 rintro vm vc vs -
 refine J 10 ?_
 refine .c call214 rfl yJ fun _ _=>?_
 refine JD 12 (fun h12=>?_) fun h12=>?_
 ·refine J 9 ?_
  rw[uc (fP h12)]
  exact JR 0 ()
 ·refine J 2 ?_
  have hmhx:=fC h12
  rw[fk hmhx]
  obtain⟨x,hx,hgx⟩:=cp hmhx
  refine J 2 ?_
  refine .c call208 rfl (nD hg) fun _ _=>?_
  refine JD 3 (fun h15=>?_) fun h15=>?_
  ·refine J 9 ?_
   rw[xG hgx h15]
   exact JR 0 ()
  ·refine J 2 ?_
   refine .fr .auto (AU hx) ?_
   have hcx:=hc x (List.mem_of_getElem? hx)
   refine .o1 (C:=gV (blk vs) (cC vs+s.toNat * 2) x) .auto rfl ?_
   rintro u -
   refine JD 8 (fun h19=>?_) fun h19=>?_
   ·refine J 9 ?_
    refine .aw rfl (af.Ij sizeOf3 rfl rfl rfl rfl) ?_
    rintro _ _ ⟨rfl,rfl⟩
    refine J 11 ?_
    rw[ud hgx h15 h19]
    refine .to (A:=fy vs (g.cf.set s.toNat {x with count:=x.count-1 })) (Bs:=[gV (blk vs) (cC vs+s.toNat * 2) {x with count:=x.count-1 },xD vs g.cf s.toNat]) .auto (sa {x with count:=x.count-1 }) ?_
    exact JR 0 ()
   ·refine J 7 ?_
    refine .fr .auto (oe (b:=blk vs) (o:=cC vs+s.toNat * 2) (u:=u)) ?_
    refine J 2 ?_
    refine .p (.jt (fun v1=>[v1,(.int .i64 0)]) rfl (by kernel_rfl)) ?_
    refine .c call211 rfl (wU (x:=⟨who,0⟩) (Nat.le_trans (hg.sw x (List.mem_of_getElem? hx)) (by decide))) fun _ _=>?_
    refine J 9 ?_
    rw[qB hgx h15 h19]
    refine .to (A:=gV (blk vs) (cC vs+s.toNat * 2) {x with wait:=x.wait++[⟨who,0⟩] }) (Bs:=[iB (blk vs) (cC vs+s.toNat * 2) (x.wait++[⟨who,0⟩]),arr (blk vs) (cC vs+s.toNat * 2+1) [.int .i64 x.count]]) .auto (qX (m:={x with wait:=x.wait++[⟨who,0⟩] })) ?_
    refine .to (A:=fy vs (g.cf.set s.toNat {x with wait:=x.wait++[⟨who,0⟩] })) (Bs:=[gV (blk vs) (cC vs+s.toNat * 2) {x with wait:=x.wait++[⟨who,0⟩] },xD vs g.cf s.toNat]) .auto (sa {x with wait:=x.wait++[⟨who,0⟩] }) ?_
    exact JR 0 ()
theorem H6{W:World}{b:Nat}{g:Gates}{s c:Int}(hg:gM g)(hc:∀ x∈g.cf,0≤x.count∧x.count≤1048576):Fn Tryz.prog W 173 [ptr b,.int .i64 s,.int .i64 c] [cX b g] Unit (fun _=>.tuple #[.int .i64 (g.up s c).1,.bool (g.up s c).2.1,.int .i64 (g.up s c).2.2.1]) (fun _=>True) (fun _=>[cX b (g.up s c).2.2.2]):=by
 refine Fn.intro (N:=40) func173 rfl ntmps173 rfl fun F=>?_
 show ax _ _ _ _ _ _ [cX b g,F]
 refine .o3 (C:=cX b g) .auto rfl ?_
 rintro vm vc vs -
 refine J 11 ?_
 refine .c call214 rfl yJ fun _ _=>?_
 refine JD 10 (fun h16=>?_) fun h16=>?_
 ·refine J 9 ?_
  rw[AW (fP h16)]
  refine .lK rfl rfl rfl rfl fun w s=>⟨(),?_,trivial,ar .auto s⟩
  rfl
 ·refine J 5 ?_
  have hmhx:=fC h16
  rw[fk hmhx]
  obtain⟨x,hx,hgx⟩:=cp hmhx
  refine .fr .auto (AU hx) ?_
  have hcx:=hc x (List.mem_of_getElem? hx)
  refine .o1 (C:=gV (blk vs) (cC vs+s.toNat * 2) x) .auto rfl ?_
  rintro u -
  refine .fr .auto (oe (b:=blk vs) (o:=cC vs+s.toNat * 2) (u:=u)) ?_
  refine J 4 ?_
  refine .c call170 rfl (te (hg.sw x (List.mem_of_getElem? hx))) fun _ _=>?_
  refine J 3 ?_
  refine .aw rfl (af.alloc rfl zeroValue274 rfl) ?_
  rintro _ _ ⟨b10,rfl,rfl⟩
  refine JD 9 (fun h25=>?_) fun h25=>?_
  ·refine J 11 ?_
   rw[ue hgx h25]
   refine .to (A:=gV (blk vs) (cC vs+s.toNat * 2) {x with wait:=(aJ x.wait c).2.2 }) (Bs:=[iB (blk vs) (cC vs+s.toNat * 2) (aJ x.wait c).2.2,arr (blk vs) (cC vs+s.toNat * 2+1) [.int .i64 x.count]]) .auto (qX (m:={x with wait:=(aJ x.wait c).2.2 })) ?_
   refine .to (A:=fy vs (g.cf.set s.toNat {x with wait:=(aJ x.wait c).2.2 })) (Bs:=[gV (blk vs) (cC vs+s.toNat * 2) {x with wait:=(aJ x.wait c).2.2 },xD vs g.cf s.toNat]) .auto (sa {x with wait:=(aJ x.wait c).2.2 }) ?_
   refine .lK rfl rfl rfl rfl fun w s=>⟨(),?_,trivial,ar .auto s⟩
   rfl
  ·have htw:=Cj h25
   refine J 8 ?_
   refine .p (.ld rfl (Cell.az (cs:=[.int .i64 x.count]) rfl)) ?_
   refine JD 3 (fun h32=>?_) fun h32=>?_
   ·refine J 9 ?_
    rw[uf hgx h25 h32]
    rw[htw]
    refine .to (A:=gV (blk vs) (cC vs+s.toNat * 2) x) (Bs:=[iB (blk vs) (cC vs+s.toNat * 2) x.wait,arr (blk vs) (cC vs+s.toNat * 2+1) [.int .i64 x.count]]) .auto qX ?_
    refine .to (A:=fy vs g.cf) (Bs:=[gV (blk vs) (cC vs+s.toNat * 2) x,xD vs g.cf s.toNat]) .auto (Ei hx) ?_
    refine .lK rfl rfl rfl rfl fun w s=>⟨(),?_,trivial,ar .auto s⟩
    rfl
   ·refine J 7 ?_
    refine .p (.ld rfl (Cell.az (cs:=[.int .i64 x.count]) rfl)) ?_
    refine .p (.add rfl rfl (by omega)) ?_
    refine J 2 ?_
    refine .aw rfl (af.Ik sizeOf3 rfl rfl rfl rfl) ?_
    rintro _ _ ⟨rfl,rfl⟩
    refine J 10 ?_
    rw[AX hgx h25 h32,htw]
    refine .to (A:=gV (blk vs) (cC vs+s.toNat * 2) {x with count:=x.count+1 }) (Bs:=[iB (blk vs) (cC vs+s.toNat * 2) x.wait,arr (blk vs) (cC vs+s.toNat * 2+1) [.int .i64 (x.count+1)]]) .auto (qX (m:={x with count:=x.count+1 })) ?_
    refine .to (A:=fy vs (g.cf.set s.toNat {x with count:=x.count+1 })) (Bs:=[gV (blk vs) (cC vs+s.toNat * 2) {x with count:=x.count+1 },xD vs g.cf s.toNat]) .auto (sa {x with count:=x.count+1 }) ?_
    refine .lK rfl rfl rfl rfl fun w s=>⟨(),?_,trivial,ar .auto s⟩
    rfl
theorem qM{W:World}{b:Nat}{g:Gates}{c ch:Int}{all:Bool}(hg:gM g)(hm:∀ r∈g.bn, ∀ w∈r,0≤w.mutex∧w.mutex<(g.aF.length:Int)):Fn Tryz.prog W 122 [ptr b,.int .i64 c,.int .i64 ch,.bool all] [cX b g] Value (fun u=>.tuple #[u,.int .i64 (g.signal c ch all).2.1]) (fun _=>True) (fun u=>[sl aL 1 u (g.signal c ch all).1,cX b (g.signal c ch all).2.2]):=by
 refine Fn.intro (N:=58) func122 rfl ntmps122 rfl fun F=>?_
 show ax _ _ _ _ _ _ [cX b g,F]
 refine .o3 (C:=cX b g) .auto rfl ?_
 rintro vm vc vs -
 refine J 10 ?_
 refine .c call169 rfl u6 fun _ _=>?_
 refine JD 10 (fun h19=>?_) fun h19=>?_
 ·refine J 8 ?_
  rw[qz (fP h19)]
  exact JR 0 (Value.slice none 0 0)
 ·refine J 4 ?_
  have hmhr:=fC h19
  rw[fk hmhr]
  obtain⟨r,hr,hgr⟩:=cp hmhr
  refine .fr .auto (AV hr) ?_
  have hrl:=hg.cw r (List.mem_of_getElem? hr)
  have hrm:=hm r (List.mem_of_getElem? hr)
  refine .o1 (C:=iB (blk vc) (cC vc+c.toNat * 1) r) .auto rfl ?_
  rintro u0 -
  refine J 5 ?_
  refine .p (.qv rfl rfl) ?_
  refine J 3 ?_
  refine .nJ (X:=Unit) [2,11,26,27,28,29,30,31] (fun _=>True) (fun _=>[(11,some (.int .i64 (((if all=true then r.length else min r.length 1):Nat):Int))),(2,some (.int .i64 (if all=true then 0 else ch)))]) (fun _=>[arr (blk vc) (cC vc+c.toNat * 1) [u0],sl cN 2 u0 r,Ci vc g.bn c.toNat,arr b 0 [vm,vc,vs],ep vm g.aF,fy vs g.cf,F]) ?_ ?_
  ·refine JD 5 (fun h26=>?_) fun h26=>?_
   ·refine J 9 ?_
    refine .eY () .auto ?_ ?_ ?_
    ·trivial
    ·subst h26;exact⟨rfl,rfl,trivial⟩
    ·exact fun w s=>aK.kept .auto w s
   ·refine J 1 ?_
    refine .eY () .auto ?_ ?_ ?_
    ·trivial
    ·rw[if_neg (by rw[h26];simp),if_neg (by rw[h26];simp)];exact⟨by show some _=some _;congr 2;omega,rfl,trivial⟩
    ·exact fun w s=>aK.kept .auto w s
  ·rintro⟨⟩ -
   obtain⟨n0,hn0⟩:∃ n0,n0=(if all=true then r.length else min r.length 1):=⟨_,rfl⟩
   obtain⟨c2,hc2⟩:∃ c2,c2=(if all=true then 0 else ch):=⟨_,rfl⟩
   have h0:n0≤r.length:=by subst hn0;split <;> omega
   rw[← hn0, ← hc2]
   refine J 13 ?_
   refine .cM (X:=Nat×List dh×List dB×Value×List Int) [12,13,14,33,34,35,36,37,38,39,40,41,42,43,44,45,46,47,48,49,50,51,52,53,54,55,56] (fun z=>n0-z.1) (fun z=>ot r g.aF n0 c2 z.1 z.2.1 z.2.2.1 z.2.2.2.2) (fun z=>[(33,some (.int .i64 (z.1:Int))),(12,some z.2.2.2.1)]) (fun z=>[iB (blk vc) (cC vc+c.toNat * 1) z.2.1,ep vm z.2.2.1,sl aL 1 z.2.2.2.1 z.2.2.2.2,Ci vc g.bn c.toNat,arr b 0 [vm,vc,vs],fy vs g.cf,F]) (0,r,g.aF,.slice none 0 0,[]) ?_ ?_ ?_ ?_
   ·exact ot.zero hg.mw
   ·exact⟨rfl,rfl,trivial⟩
   ·exact fun w s=>aK.kept .auto w s
   rintro⟨k,r1,ms,u,out⟩ hS
   simp only at hS
   refine JD 6 (fun h34=>?_) fun h34=>?_
   ·simp only at h34
    refine J 8 ?_
    refine .c call170 rfl (te (l:=r1) (by have:=hS.len;omega)) fun _ _=>?_
    refine J 3 ?_
    refine .aw rfl (af.alloc rfl zeroValue274 rfl) ?_
    rintro _ _ ⟨b13,rfl,rfl⟩
    refine J 5 ?_
    refine .draw [] [1,1,1,1,1,1,1,1,1,3] rfl (by kernel_rfl) ?_
    obtain⟨hw1,hw2,hw3⟩:=kk (l:=r1) (c:=c2) (by have:=hS.len;omega)
    have hwm:=hrm _ (hS.mem _ hw1)
    have hml:=hS.ml
    obtain⟨x,hx⟩:=ay (show(aJ r1 c2).1.mutex.toNat<ms.length by omega)
    have hxl:=hS.mw x (List.mem_of_getElem? hx)
    refine .o1 (C:=ep vm ms) .auto rfl ?_
    rintro xs hxs
    have hxsl:=kS hxs
    refine J 6 ?_
    refine .p (.ig (aJ r1 c2).1.mutex.toNat underlying191 sizeOf278 rfl rfl Rd.s (by omega) (by omega)) ?_
    refine J 2 ?_
    refine .to (A:=ep vm ms) .auto (Bs:=[sl lD 3 vm xs,aT (fun x=>sl cN 2 x.1 x.2.wait) xs]) (fun h a=>⟨xs,hxs,a⟩) ?_
    refine .fr .auto (og hx) ?_
    refine .c call171 rfl (tg (m:=x) (by omega)) fun _ _=>?_
    refine .to (A:=ep vm (ms.set (aJ r1 c2).1.mutex.toNat (x.lock (aJ r1 c2).1.who).2)) (Bs:=[ey (blk vm) (cC vm+(aJ r1 c2).1.mutex.toNat * 3) (x.lock (aJ r1 c2).1.who).2,qQ vm ms (aJ r1 c2).1.mutex.toNat]) .auto (r8 (x.lock (aJ r1 c2).1.who).2) ?_
    have hnx:=hS.next (by omega) h0
    have hsl:zw r1 c2 ms=x.lock (aJ r1 c2).1.who:=by unfold zw;rw[eL hx]
    rw[hsl] at hnx
    refine JD 2 (fun h50=>?_) fun h50=>?_
    ·rw[if_pos h50] at hnx
     refine J 4 ?_
     refine .aw rfl (af.gQ 3 rfl rfl (by kernel_rfl)) ?_
     rintro _ _ ⟨b54,rfl,rfl⟩
     refine .aw rfl (af.fi (enc:=aL) (k:=1) (aJ r1 c2).1.who rfl underlying23 underlying23 typeInfo3 rfl rfl rfl (by decide) rfl rfl rfl .auto rfl .auto (by have:=hS.ol;have:=hS.hk;dsimp only;omega) rfl) ?_
     rintro _ _ ⟨v55,rfl,rfl⟩
     refine J 8 ?_
     refine .bf (k+1,(aJ r1 c2).2.2,ms.set (aJ r1 c2).1.mutex.toNat (x.lock (aJ r1 c2).1.who).2,v55,out++[(aJ r1 c2).1.who]) .auto rfl ?_ ?_ ?_ ?_
     ·show n0-(k+1)<n0-k;omega
     ·exact hnx
     ·exact⟨rfl,rfl,trivial⟩
     ·exact fun w s=>aK.kept .auto w s
    ·rw[if_neg (by rw[h50];simp)] at hnx
     refine J 7 ?_
     refine .bf (k+1,(aJ r1 c2).2.2,ms.set (aJ r1 c2).1.mutex.toNat (x.lock (aJ r1 c2).1.who).2,u,out) .auto rfl ?_ ?_ ?_ ?_
     ·show n0-(k+1)<n0-k;omega
     ·exact hnx
     ·exact⟨rfl,rfl,trivial⟩
     ·exact fun w s=>aK.kept .auto w s
   ·simp only at h34
    refine J 13 ?_
    rw[qA (z:=(r1,ms,out)) hgr (by rw[← hn0, ← hc2];exact hS.done (by omega))]
    refine .to (A:=ik vc (g.bn.set c.toNat r1)) (Bs:=[iB (blk vc) (cC vc+c.toNat * 1) r1,Ci vc g.bn c.toNat]) .auto (Eh r1) ?_
    exact JR 0 u
theorem Da{W:World}{b:Nat}{l:List dB}{n:Int}{vm vc vs:Value}:Fn Tryz.prog W 213 [ptr b,.int .i64 1,.int .i64 n] [arr b 0 [vm,vc,vs],ep vm l] Unit (fun _=>Im vm l.length 3 n) (fun _=>True) (fun _=>[arr b 0 [vm,vc,vs],ep vm l]):=by
 refine Fn.intro (N:=35) func213 rfl ntmps213 rfl fun F=>?_
 show ax _ _ _ _ _ _ [arr b 0 [vm,vc,vs],ep vm l,F]
 refine J 18 ?_
 refine .dN rfl (fun _=>?_) (fun hc=>absurd rfl hc)
 refine J 4 ?_
 refine .c call207 rfl lq fun _ _=>?_
 refine JD 9 (fun h16=>?_) fun h16=>?_
 ·refine J 2 ?_
  have hm:=xE h16
  rw[fk hm]
  exact JR 9 ()
 ·refine J 9 ?_
  refine .aC rfl rfl fun w s=>⟨(),?_,trivial,ar .auto s⟩
  rw[qZ (zv h16)]
theorem tL{W:World}{b:Nat}{g:Gates}{n:Nat}{x:dB}(hx:g.aF[n]?=some x)(hl:x.wait.length≤1000000):Fn Tryz.prog W 172 [ptr b,.int .i64 1,.int .i64 (n:Int)] [cX b g] Value (fun u=>u) (fun _=>True) (fun u=>[sl aL 1 u (x.wait.map (·.who)),cX b g]):=by
 refine Fn.intro (N:=33) func172 rfl ntmps172 rfl fun F=>?_
 show ax _ _ _ _ _ _ [cX b g,F]
 refine .o3 (C:=cX b g) .auto rfl ?_
 rintro vm vc vs -
 have hn:=(List.getElem?_eq_some_iff.1 hx).1
 refine J 10 ?_
 refine .c call213 rfl Da fun _ _=>?_
 refine JD 10 (fun h16=>?_) fun h16=>?_
 ·exact absurd (show(0:Int)≤(n:Int)∧(n:Int)<(g.aF.length:Int) by omega) (fP h16)
 ·refine J 10 ?_
  rw[fk (by omega),Int.toNat_natCast]
  refine .fr .auto (og hx) ?_
  refine .o1 (C:=ey (blk vm) (cC vm+n * 3) x) .auto rfl ?_
  rintro u0 -
  refine J 9 ?_
  refine .cM (X:=Nat×Value) [8,10,22,23,24,25,26,27,28,29,30,31] (fun z=>x.wait.length-z.1) (fun z=>z.1≤x.wait.length) (fun z=>[(22,some (.int .i64 (z.1:Int))),(8,some z.2)]) (fun z=>[sl aL 1 z.2 ((x.wait.map (·.who)).take z.1),arr (blk vm) (cC vm+n * 3) [u0,.bool x.held,.int .i64 x.owner],sl cN 2 u0 x.wait,qQ vm g.aF n,arr b 0 [vm,vc,vs],ik vc g.bn,fy vs g.cf,F]) (0,.slice none 0 0) ?_ ?_ ?_ ?_
  ·exact Nat.zero_le _
  ·exact⟨rfl,rfl,trivial⟩
  ·exact fun w s=>aK.kept .auto w s
  rintro⟨k,u⟩ hk
  simp only at hk
  refine JD 6 (fun h23=>?_) fun h23=>?_
  ·refine J 6 ?_
   obtain⟨w,hw⟩:=ay (show k<x.wait.length by omega)
   refine J 2 ?_
   refine .aw rfl (af.alloc rfl zeroValue274 rfl) ?_
   rintro _ _ ⟨b10,rfl,rfl⟩
   refine J 7 ?_
   refine .aw rfl (af.gQ 3 rfl rfl (by kernel_rfl)) ?_
   rintro _ _ ⟨b29,rfl,rfl⟩
   refine .aw rfl (af.fi (enc:=aL) (k:=1) w.who rfl underlying23 underlying23 typeInfo3 rfl rfl rfl (by decide) rfl rfl rfl .auto rfl .auto (by rw[List.length_take,List.length_map];omega) rfl) ?_
   rintro _ _ ⟨v30,rfl,rfl⟩
   refine J 8 ?_
   refine .bf (k+1,v30) .auto rfl ?_ ?_ ?_ ?_
   ·show x.wait.length-(k+1)<x.wait.length-k;omega
   ·show k+1≤_;omega
   ·exact⟨rfl,rfl,trivial⟩
   ·show ∀ w,Sat _ w _→Sat _ w (seps [sl aL 1 v30 ((x.wait.map (·.who)).take (k+1)),_,_,_,_,_,_,F])
    rw[cy (show(x.wait.map (·.who))[k]?=some w.who by rw[List.getElem?_map,hw];rfl)]
    exact fun w s=>aK.kept .auto w s
  ·refine J 12 ?_
   obtain rfl:k=x.wait.length:=by omega
   rw[List.take_of_length_le (by simp)]
   refine .to (A:=ep vm g.aF) (Bs:=[ey (blk vm) (cC vm+n * 3) x,qQ vm g.aF n]) .auto (oh hx) ?_
   refine .aC rfl rfl fun w s=>⟨_,?_,trivial,ar .auto s⟩
   rfl
end Go.SLYtefdijgllbkmfaaGreat
