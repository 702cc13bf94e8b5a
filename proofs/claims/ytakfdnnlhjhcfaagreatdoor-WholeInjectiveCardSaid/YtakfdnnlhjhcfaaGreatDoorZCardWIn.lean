/-
WholeInjective: an accepted program never takes two different states to the same final state, forward or backward, for every program within the law's limits and every two states; the law returns true and changes nothing.
Conditions: the listed package variables read as the program's text lays them (the card ties them to the text).
-/
import Derived.Test.YtakfdnnlhjhcfaaGreatDoorA47
import Derived.Test.YtakfdnnlhjhcfaaGreatDoorA48
set_option linter.unusedVariables false
set_option linter.unusedSimpArgs false
set_option maxRecDepth 100000
set_option maxHeartbeats 8000000
namespace Go.Proofs.YtakfdnnlhjhcfaaGreatDoor
open Go.RowKit Go.ChangeShapes Go.WideShapes Go.ChangeAt Bk
namespace LawWIn
theorem uX(H:Type)(enc:TypeId×Value->H)(W:World)(base:Nat)(args:Array Value)(ds gs:List (DataW H))(before:List MemPlace)
  (fZ:∀(j:Nat) t v,Tryz.f4.params[j]?=some t->args[j]?=some v->Value.okWide Tryz.prog W .any base t v)
  (hW:DataW.Whole enc Tryz.prog Tryz.f4.params.toList Rows.wholeInjectiveSpec.vars false W args.toList ds gs before) (hL:laidMetH Tryz.prog Rows.wholeInjectiveRow.laid W) (l6:(DataW.weightsEach Tryz.prog (Tryz.f4.params.toList++(OpenSpec.ofChange Rows.wholeInjectiveSpec).bare.plain.varTypes Tryz.prog) (ds++gs)).all (·<=reachBytes)=true):
  Calls Tryz.prog 4 args W fun e W'=>∃v,e=.returned v∧Rows.wholeInjectiveSpec.post enc Tryz.prog Tryz.f4 false true false false W args v W':=by
 have Pm:=hW;obtain⟨p,q,hA0,hV,rfl,hfz,hnd⟩:=hW;have hA:DataW.TrodAll enc Tryz.prog W 0 (fun _=>true) true Tryz.f4.params.toList args.toList ds p:=hA0;have Pb:=hA;rw[Tryz.params4]at Pb fZ l6;obtain⟨v0,vs0,d0,ds0,p0,q0,Fx,rfl,rfl,h0,r0⟩:=trodAll_cons Pb;obtain⟨v1,vs1,d1,ds1,p1,q1,Fy,rfl,rfl,h1,r1⟩:=trodAll_cons r0;obtain⟨v2,vs2,d2,ds2,p2,q2,Fz,rfl,rfl,h2,r2⟩:=trodAll_cons r1;obtain⟨rfl,rfl,rfl⟩:=trodAll_nil r2;obtain rfl:args=#[v0,v1,v2]:=by cases args;simp_all
 obtain⟨rfl,rfl⟩:=trodVars_none hV;obtain⟨dd0,V0,nv0,cv0,vl0,Q0,nq0,cq0,pcs0,m0,rfl,a0,b0,c0,e0,f0,g0,i0,j0,k0,l0⟩:=yX (fZ 0 _ v0 rfl rfl) h0 (fun n hn=>of_decide_eq_true (List.all_eq_true.1 l6 n (DataW.weights_mem_each (j:=0) rfl rfl n hn)));obtain⟨vC1,vI1,vO1,cs1,inp1,out1,rfl,sw1,rg1⟩:=pN (fZ 1 _ v1 rfl rfl) h1;obtain⟨vC2,vI2,vO2,cs2,inp2,out2,rfl,sw2,rg2⟩:=pN (fZ 2 _ v2 rfl rfl) h2;refine(uS V0 nv0 cv0 vl0 a0 b0 c0 e0 f0 Q0 nq0 cq0 pcs0 g0 i0 j0 k0 m0 l0 sw1 rg1 sw2 rg2 (PW hL (by kernel_rfl))).mono fun e W'⟨he,hb⟩=>?_
 subst he;have OB:∀t∈Tryz.f4.params.toList,Tryz.prog.readableRec t=true∧t<Tryz.prog.types.size:=by
  rw[Tryz.params4];intro t ht;simp only[List.mem_cons,List.mem_nil_iff,or_false,or_self]at ht
  first
   |(subst ht;exact⟨by kernel_rfl,of_decide_eq_true (by kernel_rfl)⟩)
   |(rcases ht with rfl|rfl|rfl<;>exact⟨by kernel_rfl,of_decide_eq_true (by kernel_rfl)⟩)
   |(rcases ht with rfl|rfl<;>exact⟨by kernel_rfl,of_decide_eq_true (by kernel_rfl)⟩)
 exact⟨_,rfl,Q3 Pm hA OB rfl rfl (by simp) rfl rfl hb⟩
theorem vZ(os:Os):laidMet Tryz.prog Rows.wholeInjectiveRow.laid ((iY os).forCall (fun _ _=>0) ⟨#[],#[.agg #[.slice none 0 0,.slice none 0 0,.int .u8 0,.int .i64 0,.string ⟨#[]⟩,.slice none 0 0],.agg #[.slice none 0 0,.slice none 0 0,.slice none 0 0],.agg #[.slice none 0 0,.slice none 0 0,.slice none 0 0]],[]⟩).memory:=
 laidMet_of_run' 8 (by kernel_rfl) (by kernel_rfl)
theorem PE(os:Os){H:Type}(enc:TypeId×Value->H):∃ds places,DataW.whole enc Tryz.prog ((iY os).forCall (fun _ _=>0) ⟨#[],#[.agg #[.slice none 0 0,.slice none 0 0,.int .u8 0,.int .i64 0,.string ⟨#[]⟩,.slice none 0 0],.agg #[.slice none 0 0,.slice none 0 0,.slice none 0 0],.agg #[.slice none 0 0,.slice none 0 0,.slice none 0 0]],[]⟩).memory Tryz.f4.params.toList Rows.wholeInjectiveSpec.vars false #[Value.agg #[.slice none 0 0,.slice none 0 0,.int .u8 0,.int .i64 0,.string ⟨#[]⟩,.slice none 0 0],.agg #[.slice none 0 0,.slice none 0 0,.slice none 0 0],.agg #[.slice none 0 0,.slice none 0 0,.slice none 0 0]].toList 8=some (ds,[],places):=
 ⟨[.agg [.nil,.nil,.agg [.lit (.int .u8 0),.lit (.int .i64 0),.lit (.string []),.nil]],.agg [.nil,.nil,.nil],.agg [.nil,.nil,.nil]],[],by kernel_rfl⟩
theorem BJ(os:Os)(started:os.Started)(H:Type)(enc:TypeId×Value->H)(F:Stop.Interp):
  ReturnsInHanded {} Tryz.checked os 4 .any ((OpenSpec.ofChange Rows.wholeInjectiveSpec).preRow enc Tryz.prog Tryz.f4 Rows.wholeInjectiveRow.domain false Rows.wholeInjectiveRow.laid) (((OpenSpec.ofChange Rows.wholeInjectiveSpec).at F).post enc Tryz.prog Tryz.f4 false true false false):=by
 obtain⟨ds,places,hx⟩:=PE os enc;refine returnsInHanded_of_row (C:=Tryz.checked) (s:=OpenSpec.ofChange Rows.wholeInjectiveSpec) R3 started (by kernel_rfl) Tryz.func4
  (witness_row_at (enc:=enc) (C:=Tryz.checked) false (iY os) #[.agg #[.slice none 0 0,.slice none 0 0,.int .u8 0,.int .i64 0,.string ⟨#[]⟩,.slice none 0 0],.agg #[.slice none 0 0,.slice none 0 0,.slice none 0 0],.agg #[.slice none 0 0,.slice none 0 0,.slice none 0 0]] rfl (by kernel_rfl) (by kernel_rfl) (by kernel_rfl)
   (OpenSpec.preRow_of_cond 8 hx (by kernel_rfl) (fun k hk=>by cases hk) (by kernel_rfl) (vZ os))) ?_
 intro W base args ds gs before fZ hW _ _ l6 hL _ _;exact uX H enc W base args ds gs before fZ hW hL l6
theorem Hq:Rows.WholeInjectiveSaid:=
 OpenClaim.holds_of_cond 4 Tryz.f4 rfl rfl rfl rfl rfl rfl rfl ⟨rfl,rfl,rfl,rfl,rfl⟩ rfl rfl rfl rfl rfl (by kernel_rfl) Tryz.func4 (by kernel_rfl)
  (of_decide_eq_true (by kernel_rfl)) (by unfold Func.isWrapper;first|(rw[if_pos (by decide+kernel)];kernel_rfl)|(rw[if_neg (by decide+kernel)];exact⟨rfl,rfl⟩))
  (fun os started H enc _ F=>by rw[OpenClaim.pre_eq_preRow];exact BJ os started H enc F)
theorem plain(f:FuncId)(fn:Func)(hf:Tryz.pinned.checked.prog.funcNamed "backstep/backsteptop.WholeInjective" =some f)(yL:Tryz.pinned.checked.prog.funcs[f]?=some fn):
  true=Tryz.pinned.checked.prog.looks []∧∀(j:Nat) t,fn.params[j]?=some t->Tryz.pinned.checked.prog.wantsStandIn t=false:=by
 obtain rfl:f=4:=Option.some.inj ((show Tryz.prog.funcNamed "backstep/backsteptop.WholeInjective" =some 4 by kernel_rfl).symm.trans hf) |>.symm
 obtain rfl:fn=Tryz.f4:=(Option.some.inj (Tryz.func4.symm.trans yL)).symm;refine⟨by kernel_rfl,fun j t ht=>?_⟩;rw[Tryz.params4]at ht;have hm:=Array.mem_of_getElem? ht;simp only[List.mem_toArray,List.mem_cons,List.mem_nil_iff,or_false,or_self]at hm;rcases hm with rfl|rfl|rfl
 ·exact(show Tryz.prog.wantsStandIn 28=false by kernel_rfl)
 ·exact(show Tryz.prog.wantsStandIn 32=false by kernel_rfl)
theorem card:Rows.WholeInjectiveCardSaid:=
 Claim7.holds_tied_plain_at .later [] _ _ _ _ Hq (fun _ h=>by cases h) (by kernel_rfl) (fun _ h=>by cases h) wholeInjective_row_tie rfl ⟨rfl,rfl⟩ (by kernel_rfl) rfl plain (by kernel_rfl)
end LawWIn
end Go.Proofs.YtakfdnnlhjhcfaaGreatDoor
