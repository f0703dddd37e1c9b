/- FairBounds: whatever number of processors: the law's call returns true, and its arguments read as they did. Conditions: what is read is of bulk at most 1048576 (the statement's own). -/
import Derived.Test.YthlllpngkljgfaaGreatH06
import Derived.Test.YthlllpngkljgfaaGreatH13
namespace Go.Proofs.YthlllpngkljgfaaGreat.fairBounds
open Go Go.RowKit Go.ChangeShapes Go.WideShapes Go.ChangeAt Go.SLYthlllpngkljgfaaGreat
set_option maxRecDepth 100000 in
theorem contract(H:Type)(enc:TypeId×Value→H)(W:World)(base:Nat)(args:Array Value)(ds gs:List (DataW H))(before:List MemPlace)
  (hval:∀ (j:Nat) t v,Tryz.f10.params[j]?=some t→args[j]?=some v→Value.okWide Tryz.prog W .any base t v)
  (hW:DataW.Whole enc Tryz.prog Tryz.f10.params.toList Rows.fairBoundsSpec.vars false W args.toList ds gs before) (hk:Rows.uptoSmall H (ds++gs)=true) :
  Calls Tryz.prog 10 args W fun e W'=>∃ v,e = .returned v∧Rows.fairBoundsSpec.post enc Tryz.prog Tryz.f10 false true false false W args v W':=by
 have hW':=hW
 obtain⟨p,q,hA0,hV,rfl,hfz,hnd⟩:=hW
 have hA:DataW.TrodAll enc Tryz.prog W 0 (fun _=>true) true Tryz.f10.params.toList args.toList ds p:=hA0
 rw[Tryz.params10] at hA hval
 obtain⟨v0,vs0,d0,ds0,p0,q0,hargs,rfl,rfl,h0,r0⟩:=trodAll_cons hA
 obtain⟨rfl,rfl,rfl⟩:=trodAll_nil r0
 obtain rfl:args = #[v0]:=by cases args;simp_all
 obtain⟨rfl,rfl⟩:=trodVars_none hV
 have hb:=bound hk
 obtain⟨x0,rfl,rfl,rfl,w0⟩:=open_int Tryz.underlying3 (hval 0 3 v0 rfl rfl) h0
 simp only[List.append_nil,List.map_cons,List.sum_cons] at hb
 refine(Fn.done (yD (procs:=x0))).mono fun e W' ⟨he,hb⟩=>?_
 exact⟨_,he,pP laid (by kernel_rfl) rfl (by kernel_rfl) Tryz.underlying4 hW' rfl rfl rfl hb⟩
set_option maxRecDepth 100000 in
theorem lifted(os:Os)(started:os.Started)(H:Type)(enc:TypeId×Value→H)(F:Stop.Interp) :
  ReturnsInHanded {} Tryz.checked os 10 .any ((Rows.OpenSpec.upto Rows.fairBoundsSpec).pre6 enc Tryz.prog Tryz.f10 Rows.fairBoundsUptoRow.domain false) (((Rows.OpenSpec.upto Rows.fairBoundsSpec).at F).post enc Tryz.prog Tryz.f10 false true false false):=by
 refine returnsInHanded_of_cond (C:=Tryz.checked) (s:=Rows.OpenSpec.upto Rows.fairBoundsSpec) (k:=Rows.uptoSmall) rfl own started (by kernel_rfl) Tryz.func10
  (OpenSpec.witness (enc:=enc) (C:=Tryz.checked) (s:=Rows.OpenSpec.upto Rows.fairBoundsSpec) (k:=Rows.uptoSmall) rfl false ⟨#[], #[.int .i64 0],[]⟩ 8 (by kernel_rfl) (by kernel_rfl) (by kernel_rfl)
   (x:=([.lit (.int .i64 0)],[],[])) (by kernel_rfl) rfl (by kernel_rfl)) ?_
 intro W base args ds gs before hval hW _ hk _
 exact contract H enc W base args ds gs before hval hW hk
theorem c1:(Rows.fairBoundsUptoRow.inPlace == Tryz.prog.inPlace 10)=true:=by kernel_rfl
theorem c2:(Rows.fairBoundsUptoRow.unfollowed == Tryz.prog.unfollowed 10)=true:=by kernel_rfl
theorem c3:(Rows.fairBoundsUptoRow.recurses == Tryz.prog.recurses 10)=true:=by kernel_rfl
theorem c4:(Rows.fairBoundsUptoRow.named == Tryz.prog.varsNamed 10)=true:=by kernel_rfl
theorem closed:joinedFacts Tryz.prog 10 Tryz.f10 (Rows.OpenSpec.upto Rows.fairBoundsSpec).bare Rows.fairBoundsUptoRow=true:=by
 unfold joinedFacts
 rw[c1,c2,c3,c4]
 kernel_rfl
theorem over:Rows.fairBoundsUptoRow.holds Tryz.pinned (Rows.OpenSpec.upto Rows.fairBoundsSpec) :=
 OpenClaim.holds_of_cond 10 Tryz.f10 rfl rfl rfl rfl rfl rfl rfl ⟨rfl,rfl,rfl,rfl,rfl⟩ rfl rfl rfl rfl rfl (by kernel_rfl) Tryz.func10 closed
  (of_decide_eq_true (by kernel_rfl)) (by unfold Func.isWrapper;first | (rw[if_pos (by decide +kernel)];kernel_rfl) | (rw[if_neg (by decide +kernel)];exact⟨rfl,rfl⟩))
  (fun os started H enc _ F=>lifted os started H enc F)
theorem proved:Rows.FairBoundsUptoSaid:=over
end Go.Proofs.YthlllpngkljgfaaGreat.fairBounds
