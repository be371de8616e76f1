/-
  Live is what is reached from those roots that are there, and Dead is the rest, as the document has them, where what comes in is of bulk at most 1048576. The condition: the arguments' bulk (letters and values, uptoBulk) is at most 1048576; the two listed variables of the package sha start as the program's text lays them.
-/
import Derived.Test.YtmmmghpimdfleaaGreatDoorFrm
import Derived.Test.YtmmmghpimdfleaaGreatDoorWLive
set_option linter.unusedVariables false
set_option linter.unusedSimpArgs false
set_option maxRecDepth 100000
namespace Go.Proofs.YtmmmghpimdfleaaGreatDoor.sweepLives
open Go.ChangeShapes Go.WideShapes Go.ChangeAt Go.RowKit
theorem contract (H:Type) (enc:TypeId × Value->H) (W:World) (base:Nat) (args:Array Value) (ds gs:List (DataW H)) (before:List MemPlace)
 (hval:∀ (j:Nat) t v,Tryz.f8.params[j]? = some t->args[j]? = some v->Value.okWide Tryz.prog W .any base t v)
 (hW:DataW.Whole enc Tryz.prog Tryz.f8.params.toList Rows.sweepLivesSpec.vars false W args.toList ds gs before) (hk:Rows.uptoSmall H (ds ++ gs)=true) (hl:laidMetH Tryz.prog Frm.laid W) :
 Calls Tryz.prog 8 args W fun e W'=>∃v,e = .returned v/\Rows.sweepLivesSpec.post enc Tryz.prog Tryz.f8 false true false false W args v W':=by
 have hW':=hW;obtain ⟨p,q,hA0,hV,rfl,hfz,hnd⟩:=hW;have hA:DataW.TrodAll enc Tryz.prog W 0 (fun _=>true) true Tryz.f8.params.toList args.toList ds p:=hA0;rw [Tryz.params8] at hA hval;obtain ⟨v0,vs0,d0,ds0,p0,q0,hargs,rfl,rfl,h0,r0⟩:=trodAll_cons hA;obtain ⟨v1,vs1,d1,ds1,p1,q1,rfl,rfl,rfl,h1,r1⟩:=trodAll_cons r0;obtain ⟨rfl,rfl,rfl⟩:=trodAll_nil r1;obtain rfl:args=#[v0,v1]:=(by cases args;simp_all);obtain ⟨rfl,rfl⟩:=trodVars_none hV;clear hA0;simp only [List.append_nil] at hW' hk;obtain ⟨l0,R0,B0⟩:=Op.arg_recsN (hval 0 _ v0 rfl rfl) h0;obtain ⟨l1,R1,B1,N1⟩:=Op.arg_texts (hval 1 _ v1 rfl rfl) h1;have hb:Rows.uptoBulk d0+(Rows.uptoBulk d1+(0))<=1048576:=of_decide_eq_true hk;refine (walk W (Frm.gl hl) v0 l0 R0 v1 l1 R1 N1 (by omega)).mono fun e W' ⟨he,bel⟩=>?_
 subst he;exact ⟨_,rfl,_,_,_,[],_,[],hW',trodAll_mk1 (shut_bool Tryz.underlying4 _),(trodAll_cons_mk (Below.trod (by kernel_rfl) (by kernel_rfl) (of_decide_eq_true (by kernel_rfl)) h0 bel (fun x hx=>hW'.lt x (by simp [hx]))) (trodAll_cons_mk (Below.trod (by kernel_rfl) (by kernel_rfl) (of_decide_eq_true (by kernel_rfl)) h1 bel (fun x hx=>hW'.lt x (by simp [hx]))) trodAll_mk0)),rfl,bel.frame _,fun h=>by cases h⟩
theorem reads (os:Os) {H:Type} (enc:TypeId × Value->H):∃places,DataW.whole enc Tryz.prog ((Frm.world os).forCall (fun _ _=>0) ⟨#[],#[(.slice none 0 0:Value),(.slice none 0 0:Value)],[]⟩).memory Tryz.f8.params.toList Rows.sweepLivesSpec.vars false (#[(.slice none 0 0:Value),(.slice none 0 0:Value)]:Array Value).toList 8=some ([.nil,.nil],[],places) :=
 ⟨[],by kernel_rfl⟩
set_option maxRecDepth 100000 in
theorem lifted (os:Os) (started:os.Started) (H:Type) (enc:TypeId × Value->H) (F:Stop.Interp) :
 ReturnsInHanded {} Tryz.checked os 8 .any ((Rows.OpenSpec.upto Rows.sweepLivesSpec).preRow enc Tryz.prog Tryz.f8 Rows.sweepLivesUptoRow.domain false Rows.sweepLivesUptoRow.laid) (((Rows.OpenSpec.upto Rows.sweepLivesSpec).at F).post enc Tryz.prog Tryz.f8 false true false false):=by
 obtain ⟨places,hx⟩:=reads os enc;refine returnsInHanded_of_row (C:=Tryz.checked) (s:=Rows.OpenSpec.upto Rows.sweepLivesSpec) Frm.own started (by kernel_rfl) Tryz.func8
  (witness_row_at (enc:=enc) (C:=Tryz.checked) false (Frm.world os) #[(.slice none 0 0:Value),(.slice none 0 0:Value)] rfl (by kernel_rfl) (by kernel_rfl) (by kernel_rfl)
   (OpenSpec.preRow_of_cond 8 hx (by kernel_rfl) (fun k hk=>by cases hk;kernel_rfl) (by kernel_rfl) (Frm.met os _))) ?_
 intro W base args ds gs before hval hW _ hcond _ hlaid _ _;exact contract H enc W base args ds gs before hval hW (hcond _ rfl) hlaid
theorem k1:(Rows.sweepLivesUptoRow.inPlace == Tryz.prog.inPlace 8)=true:=by kernel_rfl
theorem k2:(Rows.sweepLivesUptoRow.unfollowed == Tryz.prog.unfollowed 8)=true:=by kernel_rfl
theorem k3:(Rows.sweepLivesUptoRow.recurses == Tryz.prog.recurses 8)=true:=by kernel_rfl
theorem k4:(Rows.sweepLivesUptoRow.named == Tryz.prog.varsNamed 8)=true:=by kernel_rfl
theorem closed:joinedFacts Tryz.prog 8 Tryz.f8 (Rows.OpenSpec.upto Rows.sweepLivesSpec).bare Rows.sweepLivesUptoRow=true:=by
 unfold joinedFacts
 repeat' with_reducible refine Frm.and_of ?_ ?_
 all_goals first | with_reducible exact k1 | with_reducible exact k2 | with_reducible exact k3 | with_reducible exact k4 | with_reducible exact Frm.laidOut | with_reducible exact Frm.rowed | kernel_rfl
theorem said:Rows.SweepLivesUptoSaid :=
 OpenClaim.holds_of_cond 8 Tryz.f8 rfl rfl rfl rfl rfl rfl rfl ⟨rfl,rfl,rfl,rfl,rfl⟩ rfl rfl rfl rfl rfl (by kernel_rfl) Tryz.func8 closed
  (of_decide_eq_true (by kernel_rfl)) (by unfold Func.isWrapper;first | (rw [if_pos (by decide +kernel)];kernel_rfl) | (rw [if_neg (by decide +kernel)];exact ⟨rfl,rfl⟩))
  (fun os started H enc _ F=>by rw [OpenClaim.pre_eq_preRow];exact lifted os started H enc F)
theorem plain (f : FuncId) (fn : Func) (hf : Tryz.pinned.checked.prog.funcNamed "depot/depotlaw19.SweepLives" = some f) (hfn : Tryz.pinned.checked.prog.funcs[f]? = some fn) :
 true=Tryz.pinned.checked.prog.looks []/\∀ (j:Nat) t,fn.params[j]? = some t->Tryz.pinned.checked.prog.wantsStandIn t=false:=by
 obtain rfl : f = 8 := Option.some.inj ((show Tryz.prog.funcNamed "depot/depotlaw19.SweepLives" = some 8 by kernel_rfl).symm.trans hf) |>.symm
 obtain rfl:fn=Tryz.f8:=(Option.some.inj (Tryz.func8.symm.trans hfn)).symm;refine ⟨by kernel_rfl,fun j t ht=>?_⟩;rw [Tryz.params8] at ht;have hm:=Array.mem_of_getElem? ht;simp only [List.mem_toArray,List.mem_cons,List.not_mem_nil,or_false] at hm;rcases hm with rfl | rfl
 · exact (show Tryz.prog.wantsStandIn 22=false by kernel_rfl)
 · exact (show Tryz.prog.wantsStandIn 27=false by kernel_rfl)
/-- The statement. -/
theorem card:Rows.SweepLivesUptoCardSaid :=
 Claim7.holds_tied_plain_at .later [] _ _ _ _ said (fun _ h=>by cases h) (by kernel_rfl) (fun _ h=>by cases h) sweepLivesUpto_row_tie rfl ⟨rfl,rfl⟩ (by kernel_rfl) rfl plain (by kernel_rfl)
#print axioms card
end Go.Proofs.YtmmmghpimdfleaaGreatDoor.sweepLives
