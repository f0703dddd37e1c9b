/- Walks of functions, and what they compute. Conditions: none, this text proves no statement. -/
import Derived.Test.YtpbjdoplfgeliaaGreatU07
import Derived.Test.YtpbjdoplfgeliaaGreatProg
import Derived.Test.YtpbjdoplfgeliaaGreatU12
import Derived.Test.YtpbjdoplfgeliaaGreatU06
import Derived.KernelRfl
set_option maxRecDepth 20000
set_option maxHeartbeats 4000000
namespace Go.SLYtpbjdoplfgeliaaGreat
open Go Go.RowKit Go.Proofs Go.Proofs.Tryz
attribute [local irreducible] ar aR bm bA bH Y
theorem ns{W:World}  : Fn Tryz.prog W 30 [] [] Unit (fun _=>.bool true) (fun _=>True) (fun _=>[]):=by
 refine Fn.intro (N:=59) func30 rfl ntmps30 rfl fun F=>?_
 show ar _ _ _ _ _ _ [F]
 refine J 7 ?_
 refine .p (.vM (fun v1 v2 v3=>[v1,v2,(.int .i64 0),(.int .i64 0),v3]) rfl rfl rfl (by kernel_rfl)) ?_
 refine .aj rfl (af.gj 94 rfl rfl (by kernel_rfl)) ?_
 rintro _ _ ⟨b7,rfl,rfl⟩
 refine .aj rfl (af.gj 95 rfl rfl (by kernel_rfl)) ?_
 rintro _ _ ⟨b8,rfl,rfl⟩
 refine .p (.gX (fun v1=>[v1,(.int .i64 0),(.int .i64 0),(.int .i64 0),(.slice none 0 0),(.slice none 0 0),(.int .i64 0),(.int .i64 0)]) rfl (by kernel_rfl)) ?_
 refine .aj rfl (af.alloc rfl zeroValue52 rfl) ?_
 rintro _ _ ⟨b1,rfl,rfl⟩
 refine J 7 ?_
 refine .aj rfl (af.gj 52 rfl rfl (by kernel_rfl)) ?_
 rintro _ _ ⟨b13,rfl,rfl⟩
 refine .c call29 rfl (vk (A:=Ow b7 b8 b13) (ps:=[jT b7 b8,jT b7 b8]) (procs:=3) HQ HR HS) fun o ho=>?_
 rw[show[jT b7 b8,jT b7 b8].map bc.p=[HP,HP] from rfl] at ho ⊢
 rw[Ll] at ho ⊢
 obtain⟨kb,rfl⟩:=Option.isSome_iff_exists.1 ho
 refine .fr (A:=optH (fun b=>tH b (Krn.new 3 [HP,HP])) (some kb)) (Bs:=[tH kb Ch]) .auto iJ ?_
 refine .o1 (C:=tH kb Ch) .auto rfl ?_
 rintro bl -
 have hi:Inv 16 Ch:=(gU Ll).1
 have hk:=dH hi [0,0] 0
 refine JD 18 (fun h22=>?_) fun h22=>?_
 ·cases h22
 ·refine J 5 ?_
  refine .aj rfl (af.gj 3 rfl rfl (by kernel_rfl)) ?_
  rintro _ _ ⟨b24,rfl,rfl⟩
  refine .c call39 rfl (iu (k:=Ch) (A:=arr b24 0 [.int .i64 0,.int .i64 0]) (prio:=[0,0]) (Rd.lit .here rfl (fun _ _=>rfl) rfl) (by decide) hi.ok) fun _ _=>?_
  rw[Nx]
  refine J 6 ?_
  refine .aj rfl (af.gj 3 rfl rfl (by kernel_rfl)) ?_
  rintro _ _ ⟨b27,rfl,rfl⟩
  refine .c call38 rfl (gI (k:=Ch) (A:=arr b27 0 [.int .i64 0,.int .i64 0]) (prio:=[0,0]) (Rd.lit .here rfl (fun _ _=>rfl) rfl) (by decide) hi (by decide)) fun _ _=>?_
  rw[Ny]
  refine J 13 ?_
  refine .dg rfl rfl rfl (af.gj 3 rfl rfl (by kernel_rfl)) ?_
  rintro _ _ ⟨b37,rfl,rfl⟩
  refine .cg call39 rfl (iu (k:=(Ch.share [0,0] 0).1) (A:=arr b37 0 [.int .i64 0,.int .i64 0]) (prio:=[0,0]) (Rd.lit .here rfl (fun _ _=>rfl) rfl) (by decide) hk.1.ok) fun _ _=>?_
  rw[Nz]
  refine J 3 ?_
  refine .dg rfl rfl rfl (af.gj 3 rfl rfl (by kernel_rfl)) ?_
  rintro _ _ ⟨b42,rfl,rfl⟩
  refine .cg call37 rfl (iE (k:=(Ch.share [0,0] 0).1) (A:=arr b42 0 [.int .i64 0,.int .i64 0]) (prio:=[0,0]) (Rd.lit .here rfl (fun _ _=>rfl) rfl) (by decide) hk.1.ok) fun u43 _=>?_
  rw[NA]
  refine .dg rfl rfl rfl (af.gj 3 rfl rfl (by kernel_rfl)) ?_
  rintro _ _ ⟨b44,rfl,rfl⟩
  refine .cg call42 rfl (qu (A:=seps [sl aq 1 u43 [1,1],arr b44 0 [.int .i64 1,.int .i64 1]]) (xs:=[1,1]) (ys:=[1,1]) (Rd.eX (Rd.sl .here)) (Rd.eX (Rd.lit (.there .here) rfl (fun _ _=>rfl) rfl)) (by decide)) fun _ _=>?_
  refine J 3 ?_
  refine .cg call43 rfl (rv (k:=(Ch.share [0,0] 0).1) hk.1.ok.ol) fun u49 _=>?_
  rw[NB]
  refine .dg rfl rfl rfl (af.gj 3 rfl rfl (by kernel_rfl)) ?_
  rintro _ _ ⟨b50,rfl,rfl⟩
  refine .cg call42 rfl (qu (A:=seps [sl aq 1 u49 [2],arr b50 0 [.int .i64 2]]) (xs:=[2]) (ys:=[2]) (Rd.eX (Rd.sl .here)) (Rd.eX (Rd.lit (.there .here) rfl (fun _ _=>rfl) rfl)) (by decide)) fun _ _=>?_
  refine J 3 ?_
  refine .dg rfl rfl rfl (af.gj 3 rfl rfl (by kernel_rfl)) ?_
  rintro _ _ ⟨b55,rfl,rfl⟩
  refine .cg call38 rfl (gI (k:=(Ch.share [0,0] 0).1) (A:=arr b55 0 [.int .i64 0]) (prio:=[0]) (Rd.lit .here rfl (fun _ _=>rfl) rfl) (by decide) hk.1 (by decide)) fun _ _=>?_
  rw[NC]
  exact JR 6 ()
end Go.SLYtpbjdoplfgeliaaGreat
