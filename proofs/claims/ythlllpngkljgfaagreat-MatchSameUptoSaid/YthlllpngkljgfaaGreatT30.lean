/- MatchSame: whatever records: the law's call returns true, and its arguments read as they did. Conditions: what is read is of bulk at most 1048576 (the statement's own). -/
import Derived.Test.YthlllpngkljgfaaGreatH06
import Derived.Test.YthlllpngkljgfaaGreatH15
namespace Go.Proofs.YthlllpngkljgfaaGreat.matchSame
open Go Go.RowKit Go.ChangeShapes Go.WideShapes Go.ChangeAt Go.SLYthlllpngkljgfaaGreat
set_option maxRecDepth 100000 in
theorem contract(H:Type)(enc:TypeId×Value→H)(W:World)(base:Nat)(args:Array Value)(ds gs:List (DataW H))(before:List MemPlace)
  (hval:∀ (j:Nat) t v,Tryz.f12.params[j]?=some t→args[j]?=some v→Value.okWide Tryz.prog W .any base t v)
  (hW:DataW.Whole enc Tryz.prog Tryz.f12.params.toList Rows.matchSameSpec.vars false W args.toList ds gs before) (hk:Rows.uptoSmall H (ds++gs)=true) :
  Calls Tryz.prog 12 args W fun e W'=>∃ v,e = .returned v∧Rows.matchSameSpec.post enc Tryz.prog Tryz.f12 false true false false W args v W':=by
 have hW':=hW
 obtain⟨p,q,hA0,hV,rfl,hfz,hnd⟩:=hW
 have hA:DataW.TrodAll enc Tryz.prog W 0 (fun _=>true) true Tryz.f12.params.toList args.toList ds p:=hA0
 rw[Tryz.params12] at hA hval
 obtain⟨v0,vs0,d0,ds0,p0,q0,hargs,rfl,rfl,h0,r0⟩:=trodAll_cons hA
 obtain⟨v1,vs1,d1,ds1,p1,q1,rfl,rfl,rfl,h1,r1⟩:=trodAll_cons r0
 obtain⟨rfl,rfl,rfl⟩:=trodAll_nil r1
 obtain rfl:args = #[v0,v1]:=by cases args;simp_all
 obtain⟨rfl,rfl⟩:=trodVars_none hV
 have hb:=bound hk
 obtain⟨s0,len0,cap0,rfl⟩:=okWide_slice Tryz.underlying44 (hval 0 44 v0 rfl rfl)
 obtain⟨n0,t0⟩:=h0
 obtain⟨⟨u0,xs0⟩,e0,hr0,hl0,hp0⟩:=wK _ _ _ t0
 obtain rfl:Value.slice s0 len0 cap0=u0:=by simpa [Value.cells] using e0
 have hll0:xs0.length+1≤Rows.uptoBulk d0:=hl0
 obtain⟨s1,len1,cap1,rfl⟩:=okWide_slice Tryz.underlying44 (hval 1 44 v1 rfl rfl)
 obtain⟨n1,t1⟩:=h1
 obtain⟨⟨u1,xs1⟩,e1,hr1,hl1,hp1⟩:=wK _ _ _ t1
 obtain rfl:Value.slice s1 len1 cap1=u1:=by simpa [Value.cells] using e1
 have hll1:xs1.length+1≤Rows.uptoBulk d1:=hl1
 simp only[List.append_nil,List.map_cons,List.sum_cons] at hb
 have hlen0:xs0.length≤1000000000:=by omega
 have hlen1:xs1.length≤1000000000:=by omega
 refine(Fn.done (Fn.emp (CG (A:=emp) (Rd.old hr0) (Rd.old hr1) hlen0))).mono fun e W' ⟨he,hb⟩=>?_
 exact⟨_,he,pP laid (by kernel_rfl) rfl (by kernel_rfl) Tryz.underlying4 hW' rfl rfl rfl hb⟩
set_option maxRecDepth 100000 in
theorem lifted(os:Os)(started:os.Started)(H:Type)(enc:TypeId×Value→H)(F:Stop.Interp) :
  ReturnsInHanded {} Tryz.checked os 12 .any ((Rows.OpenSpec.upto Rows.matchSameSpec).pre6 enc Tryz.prog Tryz.f12 Rows.matchSameUptoRow.domain false) (((Rows.OpenSpec.upto Rows.matchSameSpec).at F).post enc Tryz.prog Tryz.f12 false true false false):=by
 refine returnsInHanded_of_cond (C:=Tryz.checked) (s:=Rows.OpenSpec.upto Rows.matchSameSpec) (k:=Rows.uptoSmall) rfl own started (by kernel_rfl) Tryz.func12
  (OpenSpec.witness (enc:=enc) (C:=Tryz.checked) (s:=Rows.OpenSpec.upto Rows.matchSameSpec) (k:=Rows.uptoSmall) rfl false ⟨#[], #[.slice none 0 0,.slice none 0 0],[]⟩ 8 (by kernel_rfl) (by kernel_rfl) (by kernel_rfl)
   (x:=([.nil,.nil],[],[])) (by kernel_rfl) rfl (by kernel_rfl)) ?_
 intro W base args ds gs before hval hW _ hk _
 exact contract H enc W base args ds gs before hval hW hk
theorem c1:(Rows.matchSameUptoRow.inPlace == Tryz.prog.inPlace 12)=true:=by kernel_rfl
theorem c2:(Rows.matchSameUptoRow.unfollowed == Tryz.prog.unfollowed 12)=true:=by kernel_rfl
theorem c3:(Rows.matchSameUptoRow.recurses == Tryz.prog.recurses 12)=true:=by kernel_rfl
theorem c4:(Rows.matchSameUptoRow.named == Tryz.prog.varsNamed 12)=true:=by kernel_rfl
theorem closed:joinedFacts Tryz.prog 12 Tryz.f12 (Rows.OpenSpec.upto Rows.matchSameSpec).bare Rows.matchSameUptoRow=true:=by
 unfold joinedFacts
 rw[c1,c2,c3,c4]
 kernel_rfl
theorem over:Rows.matchSameUptoRow.holds Tryz.pinned (Rows.OpenSpec.upto Rows.matchSameSpec) :=
 OpenClaim.holds_of_cond 12 Tryz.f12 rfl rfl rfl rfl rfl rfl rfl ⟨rfl,rfl,rfl,rfl,rfl⟩ rfl rfl rfl rfl rfl (by kernel_rfl) Tryz.func12 closed
  (of_decide_eq_true (by kernel_rfl)) (by unfold Func.isWrapper;first | (rw[if_pos (by decide +kernel)];kernel_rfl) | (rw[if_neg (by decide +kernel)];exact⟨rfl,rfl⟩))
  (fun os started H enc _ F=>lifted os started H enc F)
theorem proved:Rows.MatchSameUptoSaid:=over
end Go.Proofs.YthlllpngkljgfaaGreat.matchSame
