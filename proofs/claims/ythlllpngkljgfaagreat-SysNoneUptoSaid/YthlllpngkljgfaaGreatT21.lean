/- SysNone: whatever entry and space: the law's call returns true, and its arguments read as they did. Conditions: what is read is of bulk at most 1048576 (the statement's own). -/
import Derived.Test.YthlllpngkljgfaaGreatG06
import Derived.Test.YthlllpngkljgfaaGreatG13
namespace Go.Proofs.YthlllpngkljgfaaGreat.sysNone
open Go Go.RowKit Go.ChangeShapes Go.WideShapes Go.ChangeAt Go.SLYthlllpngkljgfaaGreat
set_option maxRecDepth 100000 in
theorem contract(H:Type)(enc:TypeId×Value→H)(W:World)(base:Nat)(args:Array Value)(ds gs:List (DataW H))(before:List MemPlace)
  (hval:∀ (j:Nat) t v,Tryz.f6.params[j]?=some t→args[j]?=some v→Value.okWide Tryz.prog W .any base t v)
  (hW:DataW.Whole enc Tryz.prog Tryz.f6.params.toList Rows.sysNoneSpec.vars false W args.toList ds gs before) (hk:Rows.uptoSmall H (ds++gs)=true) :
  Calls Tryz.prog 6 args W fun e W'=>∃ v,e = .returned v∧Rows.sysNoneSpec.post enc Tryz.prog Tryz.f6 false true false false W args v W':=by
 have hW':=hW
 obtain⟨p,q,hA0,hV,rfl,hfz,hnd⟩:=hW
 have hA:DataW.TrodAll enc Tryz.prog W 0 (fun _=>true) true Tryz.f6.params.toList args.toList ds p:=hA0
 rw[Tryz.params6] at hA hval
 obtain⟨v0,vs0,d0,ds0,p0,q0,hargs,rfl,rfl,h0,r0⟩:=trodAll_cons hA
 obtain⟨v1,vs1,d1,ds1,p1,q1,rfl,rfl,rfl,h1,r1⟩:=trodAll_cons r0
 obtain⟨rfl,rfl,rfl⟩:=trodAll_nil r1
 obtain rfl:args = #[v0,v1]:=by cases args;simp_all
 obtain⟨rfl,rfl⟩:=trodVars_none hV
 have hb:=bound hk
 obtain⟨cs0,rfl,_⟩:=okWide_struct Tryz.underlying34 (hval 0 34 v0 rfl rfl)
 obtain⟨n0,t0⟩:=h0
 obtain⟨x0,e0,hp0⟩:=Ax _ _ _ t0
 obtain rfl:cs0=(ga x0).toArray:=by
  have h:=e0
  simp only[Value.cells] at h
  rw[← h]
 obtain⟨x1,rfl,rfl,rfl,w1⟩:=open_int Tryz.underlying3 (hval 1 3 v1 rfl rfl) h1
 simp only[List.append_nil,List.map_cons,List.sum_cons] at hb
 refine(Fn.done (CD (x:=x0) (n:=x1))).mono fun e W' ⟨he,hb⟩=>?_
 exact⟨_,he,jP laid (by kernel_rfl) rfl (by kernel_rfl) Tryz.underlying4 hW' rfl rfl rfl hb⟩
set_option maxRecDepth 100000 in
theorem lifted(os:Os)(started:os.Started)(H:Type)(enc:TypeId×Value→H)(F:Stop.Interp) :
  ReturnsInHanded {} Tryz.checked os 6 .any ((Rows.OpenSpec.upto Rows.sysNoneSpec).pre6 enc Tryz.prog Tryz.f6 Rows.sysNoneUptoRow.domain false) (((Rows.OpenSpec.upto Rows.sysNoneSpec).at F).post enc Tryz.prog Tryz.f6 false true false false):=by
 refine returnsInHanded_of_cond (C:=Tryz.checked) (s:=Rows.OpenSpec.upto Rows.sysNoneSpec) (k:=Rows.uptoSmall) rfl own started (by kernel_rfl) Tryz.func6
  (OpenSpec.witness (enc:=enc) (C:=Tryz.checked) (s:=Rows.OpenSpec.upto Rows.sysNoneSpec) (k:=Rows.uptoSmall) rfl false ⟨#[], #[.agg #[.int .i64 0,.int .i64 0,.int .i64 0],.int .i64 0],[]⟩ 8 (by kernel_rfl) (by kernel_rfl) (by kernel_rfl)
   (x:=([.agg [.lit (.int .i64 0),.lit (.int .i64 0),.lit (.int .i64 0)],.lit (.int .i64 0)],[],[])) (by kernel_rfl) rfl (by kernel_rfl)) ?_
 intro W base args ds gs before hval hW _ hk _
 exact contract H enc W base args ds gs before hval hW hk
theorem c1:(Rows.sysNoneUptoRow.inPlace == Tryz.prog.inPlace 6)=true:=by kernel_rfl
theorem c2:(Rows.sysNoneUptoRow.unfollowed == Tryz.prog.unfollowed 6)=true:=by kernel_rfl
theorem c3:(Rows.sysNoneUptoRow.recurses == Tryz.prog.recurses 6)=true:=by kernel_rfl
theorem c4:(Rows.sysNoneUptoRow.named == Tryz.prog.varsNamed 6)=true:=by kernel_rfl
theorem closed:joinedFacts Tryz.prog 6 Tryz.f6 (Rows.OpenSpec.upto Rows.sysNoneSpec).bare Rows.sysNoneUptoRow=true:=by
 unfold joinedFacts
 rw[c1,c2,c3,c4]
 kernel_rfl
theorem over:Rows.sysNoneUptoRow.holds Tryz.pinned (Rows.OpenSpec.upto Rows.sysNoneSpec) :=
 OpenClaim.holds_of_cond 6 Tryz.f6 rfl rfl rfl rfl rfl rfl rfl ⟨rfl,rfl,rfl,rfl,rfl⟩ rfl rfl rfl rfl rfl (by kernel_rfl) Tryz.func6 closed
  (of_decide_eq_true (by kernel_rfl)) (by unfold Func.isWrapper;first | (rw[if_pos (by decide +kernel)];kernel_rfl) | (rw[if_neg (by decide +kernel)];exact⟨rfl,rfl⟩))
  (fun os started H enc _ F=>lifted os started H enc F)
theorem proved:Rows.SysNoneUptoSaid:=over
end Go.Proofs.YthlllpngkljgfaaGreat.sysNone
