/-
  What a sweep lists is what zaW lists ahead of it and what the ak sweep lists, in its order and with its bytes, and the store behind it is the ak, where what comes in is of bulk at most 1048576. The condition: the arguments' bulk (letters and values, uptoBulk) is at most 1048576; the two listed variables of the package sha start as the program's text lays them.
-/
import Derived.Test.YtmmmghpimdfleaaGreatDoorFrm
import Derived.Test.YtmmmghpimdfleaaGreatDoorWCo
set_option linter.unusedVariables false
set_option linter.unusedSimpArgs false
set_option maxRecDepth 100000
namespace Go.Proofs.YtmmmghpimdfleaaGreatDoor.sweepCollects
open Go.ChangeShapes Go.WideShapes Go.ChangeAt Go.RowKit
theorem contract(H:Type)(enc:TypeId × Value->H)(W:World)(base:Nat)(args:Array Value)(ds gs:List (DataW H))(before:List MemPlace)
 (hval:∀(j:Nat) t v,Tryz.f13.params[j]? = some t->args[j]? = some v->Value.okWide Tryz.prog W .any base t v)
 (hW:DataW.Whole enc Tryz.prog Tryz.f13.params.toList Rows.sweepCollectsSpec.vars false W args.toList ds gs before) (hk:Rows.uptoSmall H (ds++gs)=true) (hl:laidMetH Tryz.prog oG.laid W) :
 Calls Tryz.prog 13 args W fun e W'=>∃v,e = .returned v/\Rows.sweepCollectsSpec.post enc Tryz.prog Tryz.f13 false true false false W args v W':=by
 have hW':=hW;obtain⟨p,q,hA0,hV,rfl,hfz,hnd⟩:=hW;have hA:DataW.TrodAll enc Tryz.prog W 0 (fun _=>true) true Tryz.f13.params.toList args.toList ds p:=hA0;rw[Tryz.params13]at hA hval;obtain⟨v0,vs0,d0,ds0,p0,q0,hargs,rfl,rfl,h0,r0⟩:=trodAll_cons hA;obtain⟨v1,vs1,d1,ds1,p1,q1,rfl,rfl,rfl,h1,r1⟩:=trodAll_cons r0;obtain⟨rfl,rfl,rfl⟩:=trodAll_nil r1;obtain rfl:args=#[v0,v1]:=(by cases args;simp_all);obtain⟨rfl,rfl⟩:=trodVars_none hV;clear hA0;simp only[List.append_nil]at hW' hk;obtain⟨l0,R0,B0⟩:=Op.I7 (hval 0 _ v0 rfl rfl) h0;obtain⟨ro1,us1,zbU,rv1,uv1,cs1,rfl,R1,B1⟩:=Op.SN (hval 1 _ v1 rfl rfl) h1;obtain rfl:=R1.cells;have hb:Rows.uptoBulk d0+(Rows.uptoBulk d1+(0))<=1048576:=of_decide_eq_true hk;refine(walk W (oG.gl hl) v0 l0 R0 ro1 us1 zbU rv1 uv1 R1 (by omega)).mono fun e W' ⟨he,bel⟩=>?_
 subst he;exact⟨_,rfl,_,_,_,[],_,[],hW',trodAll_mk1 (shut_bool Tryz.underlying4 _),(trodAll_cons_mk (Below.trod (by kernel_rfl) (by kernel_rfl) (of_decide_eq_true (by kernel_rfl)) h0 bel (fun x hx=>hW'.lt x (by simp[hx]))) (trodAll_cons_mk (Below.trod (by kernel_rfl) (by kernel_rfl) (of_decide_eq_true (by kernel_rfl)) h1 bel (fun x hx=>hW'.lt x (by simp[hx]))) trodAll_mk0)),rfl,bel.frame _,fun h=>by cases h⟩
theorem reads(os:Os){H:Type}(enc:TypeId × Value->H):∃places,DataW.whole enc Tryz.prog ((oG.world os).forCall (fun _ _=>0) ⟨#[],#[(.slice none 0 0:Value),(Op.Ba:Value)],[]⟩).memory Tryz.f13.params.toList Rows.sweepCollectsSpec.vars false (#[(.slice none 0 0:Value),(Op.Ba:Value)]:Array Value).toList 8=some ([.nil,.agg [.nil,.nil,.lit (.int .i64 0)]],[],places) :=
 ⟨[],by kernel_rfl⟩
set_option maxRecDepth 100000 in
theorem lifted(os:Os)(started:os.Started)(H:Type)(enc:TypeId × Value->H)(F:Stop.Interp) :
 ReturnsInHanded {} Tryz.checked os 13 .any ((Rows.OpenSpec.upto Rows.sweepCollectsSpec).preRow enc Tryz.prog Tryz.f13 Rows.sweepCollectsUptoRow.domain false Rows.sweepCollectsUptoRow.laid) (((Rows.OpenSpec.upto Rows.sweepCollectsSpec).at F).post enc Tryz.prog Tryz.f13 false true false false):=by
 obtain⟨places,hx⟩:=reads os enc;refine returnsInHanded_of_row (C:=Tryz.checked) (s:=Rows.OpenSpec.upto Rows.sweepCollectsSpec) oG.own started (by kernel_rfl) Tryz.func13
  (witness_row_at (enc:=enc) (C:=Tryz.checked) false (oG.world os) #[(.slice none 0 0:Value),(Op.Ba:Value)] rfl (by kernel_rfl) (by kernel_rfl) (by kernel_rfl)
   (OpenSpec.preRow_of_cond 8 hx (by kernel_rfl) (fun k hk=>by cases hk;kernel_rfl) (by kernel_rfl) (oG.met os _))) ?_
 intro W base args ds gs before hval hW _ hcond _ hlaid _ _;exact contract H enc W base args ds gs before hval hW (hcond _ rfl) hlaid
theorem k1:(Rows.sweepCollectsUptoRow.inPlace==Tryz.prog.inPlace 13)=true:=by kernel_rfl
theorem k2:(Rows.sweepCollectsUptoRow.unfollowed==Tryz.prog.unfollowed 13)=true:=by kernel_rfl
theorem k3:(Rows.sweepCollectsUptoRow.recurses==Tryz.prog.recurses 13)=true:=by kernel_rfl
theorem k4:(Rows.sweepCollectsUptoRow.named==Tryz.prog.varsNamed 13)=true:=by kernel_rfl
theorem closed:joinedFacts Tryz.prog 13 Tryz.f13 (Rows.OpenSpec.upto Rows.sweepCollectsSpec).bare Rows.sweepCollectsUptoRow=true:=by
 unfold joinedFacts
 repeat' with_reducible refine oG.UT ?_ ?_
 all_goals first|with_reducible exact k1|with_reducible exact k2|with_reducible exact k3|with_reducible exact k4|with_reducible exact oG.laidOut|with_reducible exact oG.rowed|kernel_rfl
theorem said:Rows.SweepCollectsUptoSaid :=
 OpenClaim.holds_of_cond 13 Tryz.f13 rfl rfl rfl rfl rfl rfl rfl ⟨rfl,rfl,rfl,rfl,rfl⟩ rfl rfl rfl rfl rfl (by kernel_rfl) Tryz.func13 closed
  (of_decide_eq_true (by kernel_rfl)) (by unfold Func.isWrapper;first|(rw[if_pos (by decide +kernel)];kernel_rfl)|(rw[if_neg (by decide +kernel)];exact⟨rfl,rfl⟩))
  (fun os started H enc _ F=>by rw[OpenClaim.pre_eq_preRow];exact lifted os started H enc F)
theorem plain (f : FuncId) (fn : Func) (hf : Tryz.pinned.checked.prog.funcNamed "depot/depotlaw19.SweepCollects" = some f) (hfn : Tryz.pinned.checked.prog.funcs[f]? = some fn) :
 true=Tryz.pinned.checked.prog.looks []/\∀(j:Nat) t,fn.params[j]? = some t->Tryz.pinned.checked.prog.wantsStandIn t=false:=by
 obtain rfl : f = 13 := Option.some.inj ((show Tryz.prog.funcNamed "depot/depotlaw19.SweepCollects" = some 13 by kernel_rfl).symm.trans hf) |>.symm
 obtain rfl:fn=Tryz.f13:=(Option.some.inj (Tryz.func13.symm.trans hfn)).symm;refine⟨by kernel_rfl,fun j t ht=>?_⟩;rw[Tryz.params13]at ht;have hm:=Array.mem_of_getElem? ht;simp only[List.mem_toArray,List.mem_cons,List.not_mem_nil,or_false]at hm;rcases hm with rfl|rfl
 ·exact(show Tryz.prog.wantsStandIn 22=false by kernel_rfl)
 ·exact(show Tryz.prog.wantsStandIn 74=false by kernel_rfl)
/-- The statement. -/
theorem card:Rows.SweepCollectsUptoCardSaid :=
 Claim7.holds_tied_plain_at .later [] _ _ _ _ said (fun _ h=>by cases h) (by kernel_rfl) (fun _ h=>by cases h) sweepCollectsUpto_row_tie rfl ⟨rfl,rfl⟩ (by kernel_rfl) rfl plain (by kernel_rfl)
#print axioms card
end Go.Proofs.YtmmmghpimdfleaaGreatDoor.sweepCollects
