/- OnePlays: whatever programs and acts: the law's call returns true, and its arguments read as they did. Conditions: what is read is of bulk at most 1048576 (the statement's own). -/
import Derived.Test.YtefdijgllbkmfaaGreatH05
import Derived.Test.YtefdijgllbkmfaaGreatH13
namespace Go.Proofs.YtefdijgllbkmfaaGreat.onePlays
open Go Go.RowKit Go.ChangeShapes Go.WideShapes Go.ChangeAt Go.SLYtefdijgllbkmfaaGreat
set_option maxRecDepth 100000 in
theorem contract(H:Type)(enc:TypeId×Value→H)(W:World)(base:Nat)(args:Array Value)(ds gs:List (DataW H))(before:List MemPlace)
  (hval:∀ (j:Nat) t v,Tryz.f5.params[j]?=some t→args[j]?=some v→Value.okWide Tryz.prog W .any base t v)
  (hW:DataW.Whole enc Tryz.prog Tryz.f5.params.toList Rows.onePlaysSpec.vars false W args.toList ds gs before) (hk:Rows.uptoSmall H (ds++gs)=true) :
  Calls Tryz.prog 5 args W fun e W'=>∃ v,e = .returned v∧Rows.onePlaysSpec.post enc Tryz.prog Tryz.f5 false true false false W args v W':=by
 have hW':=hW
 obtain⟨p,q,hA0,hV,rfl,hfz,hnd⟩:=hW
 have hA:DataW.TrodAll enc Tryz.prog W 0 (fun _=>true) true Tryz.f5.params.toList args.toList ds p:=hA0
 rw[Tryz.params5] at hA hval
 obtain⟨v0,vs0,d0,ds0,p0,q0,hargs,rfl,rfl,h0,r0⟩:=trodAll_cons hA
 obtain⟨v1,vs1,d1,ds1,p1,q1,rfl,rfl,rfl,h1,r1⟩:=trodAll_cons r0
 obtain⟨rfl,rfl,rfl⟩:=trodAll_nil r1
 obtain rfl:args = #[v0,v1]:=by cases args;simp_all
 obtain⟨rfl,rfl⟩:=trodVars_none hV
 have hb:=bound hk
 obtain⟨s0,len0,cap0,rfl⟩:=okWide_slice Tryz.underlying67 (hval 0 67 v0 rfl rfl)
 obtain⟨n0,t0⟩:=h0
 obtain⟨⟨u0,xs0⟩,e0,hr0,hl0,hp0⟩:=Cv _ _ _ t0
 obtain rfl:Value.slice s0 len0 cap0=u0:=by simpa [Value.cells] using e0
 have hll0:xs0.length+1≤Rows.uptoBulk d0:=hl0
 obtain⟨s1,len1,cap1,rfl⟩:=okWide_slice Tryz.underlying68 (hval 1 68 v1 rfl rfl)
 obtain⟨n1,t1⟩:=h1
 obtain⟨⟨u1,xs1⟩,e1,hr1,hl1,hp1⟩:=Cw _ _ _ t1
 obtain rfl:Value.slice s1 len1 cap1=u1:=by simpa [Value.cells] using e1
 have hll1:xs1.length+1≤Rows.uptoBulk d1:=hl1
 simp only[List.append_nil,List.map_cons,List.sum_cons] at hb
 have hlen0:xs0.length≤1000000000:=by omega
 have hle0:Rows.uptoBulk d0≤1000000000:=by omega
 have hbb0:xs0.length≤1000000000∧ ∀ p∈xs0,p.fs.length≤1000000000∧p.aU.length≤1000000000∧p.aG.length≤1000000000:=⟨hlen0,fun p hp=>⟨Nat.le_trans (hp0 p hp).fl hle0,Nat.le_trans (hp0 p hp).sl hle0,Nat.le_trans (hp0 p hp).pl hle0⟩⟩
 have hw0:∀ p∈xs0.map bN.p, ∀ f∈p.funcs, ∀ i∈f,fq i.n:=fun p hp=>by
  obtain⟨q,hq,rfl⟩:=List.mem_map.1 hp
  exact(hp0 q hq).wo
 have hlen1:xs1.length≤1000000000:=by omega
 refine(Fn.done (Fn.emp (yV (A:=emp) (Rd.old hr0) (fun p hp=>(hp0 p hp).rd _) hbb0 hw0 (Rd.old hr1) hlen1))).mono fun e W' ⟨he,hb⟩=>?_
 exact⟨_,he,EU laid (by kernel_rfl) rfl (by kernel_rfl) Tryz.underlying4 hW' rfl rfl rfl hb⟩
set_option maxRecDepth 100000 in
theorem lifted(os:Os)(started:os.Started)(H:Type)(enc:TypeId×Value→H)(F:Stop.Interp) :
  ReturnsInHanded {} Tryz.checked os 5 .any ((Rows.OpenSpec.upto Rows.onePlaysSpec).pre6 enc Tryz.prog Tryz.f5 Rows.onePlaysUptoRow.domain false) (((Rows.OpenSpec.upto Rows.onePlaysSpec).at F).post enc Tryz.prog Tryz.f5 false true false false):=by
 refine returnsInHanded_of_cond (C:=Tryz.checked) (s:=Rows.OpenSpec.upto Rows.onePlaysSpec) (k:=Rows.uptoSmall) rfl own started (by kernel_rfl) Tryz.func5
  (OpenSpec.witness (enc:=enc) (C:=Tryz.checked) (s:=Rows.OpenSpec.upto Rows.onePlaysSpec) (k:=Rows.uptoSmall) rfl false ⟨#[], #[.slice none 0 0,.slice none 0 0],[]⟩ 8 (by kernel_rfl) (by kernel_rfl) (by kernel_rfl)
   (x:=([.nil,.nil],[],[])) (by kernel_rfl) rfl (by kernel_rfl)) ?_
 intro W base args ds gs before hval hW _ hk _
 exact contract H enc W base args ds gs before hval hW hk
theorem c1:(Rows.onePlaysUptoRow.inPlace == Tryz.prog.inPlace 5)=true:=by kernel_rfl
theorem c2:(Rows.onePlaysUptoRow.unfollowed == Tryz.prog.unfollowed 5)=true:=by kernel_rfl
theorem c3:(Rows.onePlaysUptoRow.recurses == Tryz.prog.recurses 5)=true:=by kernel_rfl
theorem c4:(Rows.onePlaysUptoRow.named == Tryz.prog.varsNamed 5)=true:=by kernel_rfl
theorem closed:joinedFacts Tryz.prog 5 Tryz.f5 (Rows.OpenSpec.upto Rows.onePlaysSpec).bare Rows.onePlaysUptoRow=true:=by
 unfold joinedFacts
 rw[c1,c2,c3,c4]
 kernel_rfl
theorem over:Rows.onePlaysUptoRow.holds Tryz.pinned (Rows.OpenSpec.upto Rows.onePlaysSpec) :=
 OpenClaim.holds_of_cond 5 Tryz.f5 rfl rfl rfl rfl rfl rfl rfl ⟨rfl,rfl,rfl,rfl,rfl⟩ rfl rfl rfl rfl rfl (by kernel_rfl) Tryz.func5 closed
  (of_decide_eq_true (by kernel_rfl)) (by unfold Func.isWrapper;first | (rw[if_pos (by decide +kernel)];kernel_rfl) | (rw[if_neg (by decide +kernel)];exact⟨rfl,rfl⟩))
  (fun os started H enc _ F=>lifted os started H enc F)
theorem proved:Rows.OnePlaysUptoSaid:=over
end Go.Proofs.YtefdijgllbkmfaaGreat.onePlays
