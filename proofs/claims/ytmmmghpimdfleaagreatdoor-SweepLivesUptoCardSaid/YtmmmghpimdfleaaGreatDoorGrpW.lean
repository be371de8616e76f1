/-
  A store of two records, the second of which refers to the first: what Add, Order and Cut answer of it.
  The chapter's fixed question of the program: a tree added is there, and another that refers to it.
-/
import Derived.Test.YtmmmghpimdfleaaGreatDoorGrpV
import Derived.Test.YtmmmghpimdfleaaGreatDoorGrpQ
import Derived.Test.YtmmmghpimdfleaaGreatDoorGrpJ
import Derived.Test.YtmmmghpimdfleaaGreatDoorStock
set_option linter.unusedVariables false
set_option linter.unusedSimpArgs false
namespace Go.Proofs.YtmmmghpimdfleaaGreatDoor.St
open Mem Tr
def leafT (t:ByteArray):Tree:=⟨1,false,t,.nil⟩
theorem code_x:Sum.codeOf (leafT ⟨#[120]⟩)=0:=by kernel_rfl
theorem lab_a:Pre.labE ⟨#[97]⟩=0:=by kernel_rfl
theorem lab_b:Pre.labE ⟨#[98]⟩=0:=by kernel_rfl

variable (rc st : Nat → BitVec 32)
def rp:Rec:=addRec rc st ⟨#[97]⟩ (leafT ⟨#[120]⟩) []
theorem refs_nil:Pre.refsE []=0:=by kernel_rfl
theorem valid_add {label:ByteArray} {T:Tree} {refs:List ByteArray} (h1:Sum.codeOf T=0) (h2:Pre.labE label=0) (h3:Pre.refsE refs=0):Sto.validE rc st (addRec rc st label T refs)=0:=by
 unfold Sto.validE;rw [if_pos (show Pre.parseErr (addRec rc st label T refs).path=0 from Pok.parse_makeS rc st refs _ label h2),if_pos (show Sum.codeOf (addRec rc st label T refs).tree=0 from h1),
  if_pos (show (addRec rc st label T refs).size=((Sum.bytesOf (addRec rc st label T refs).tree).length:Nat) from rfl),if_pos (show (addRec rc st label T refs).hash=Sum.digOf rc st (addRec rc st label T refs).tree from rfl)]
 exact h3
theorem make_ok {label:ByteArray} {refs:List ByteArray} (h2:Pre.labE label=0) (h3:Pre.refsE refs=0):Make.makeErr refs label=0:=by
 unfold Make.makeErr;rw [if_pos h2];exact h3
theorem ins_p:Sto.insE rc st [] (rp rc st)=0:=by
 unfold Sto.insE;rw [if_pos (show Sto.validE rc st (rp rc st)=0 from valid_add rc st code_x lab_a refs_nil)];rfl
theorem add_p:addE rc st [] ⟨#[97]⟩ (leafT ⟨#[120]⟩) []=0/\addS rc st [] ⟨#[97]⟩ (leafT ⟨#[120]⟩) [] = [rp rc st]/\addP rc st [] ⟨#[97]⟩ (leafT ⟨#[120]⟩) []=(rp rc st).path:=by
 have hm:=make_ok lab_a refs_nil;have hE:addE rc st [] ⟨#[97]⟩ (leafT ⟨#[120]⟩) []=0:=(by unfold addE;rw [if_pos code_x,if_pos hm];exact ins_p rc st);refine ⟨hE,?_,?_⟩
 · unfold addS;rw [if_pos ⟨code_x,hm⟩];unfold Sto.insS;rw [if_pos (show Sto.insE rc st [] (addRec rc st ⟨#[97]⟩ (leafT ⟨#[120]⟩) [])=0 from ins_p rc st)];rfl
 · unfold addP;rw [if_pos hE];rfl
end Go.Proofs.YtmmmghpimdfleaaGreatDoor.St

namespace Go.Proofs.YtmmmghpimdfleaaGreatDoor.St
open Go.RowKit Mem Tr
open Go.Proofs.YtmmmghpimdfleaaGreatDoor.Own
theorem good_one (rc st:Nat->BitVec 32):Sto.Good rc st [rp rc st]:=by
 have h:=Sto.good_ins (r:=rp rc st) (rs:=[]) (rc:=rc) (st:=st) ⟨List.Pairwise.nil,by simp,by simp,by simp⟩ (by
  unfold Rec.bulk;rw [show (rp rc st).path.size=46+1 from makeS_size rc st _ _ _];show 46+1+(leafT ⟨#[120]⟩).bulk+bulks []<=_;decide)
 unfold Sto.insS at h;rw [if_pos (ins_p rc st)] at h;exact h
theorem strs_one (w:World) (p:ByteArray):Strs (fun b=>b=w.heap.size) (w.alloc (.cells #[.string p] 9)) (.slice (some ⟨w.heap.size,0,none⟩) 1 1) [p] :=
 ⟨some ⟨w.heap.size,0,none⟩,1,rfl,Nat.le_refl _,by unfold maxLen;omega,.inr ⟨w.heap.size,0,rfl,rfl,fun j hj=>by
  obtain rfl:j=0:=(by simpa using hj);exact (Bx.new w #[.string p] 9).cell 0⟩⟩
end Go.Proofs.YtmmmghpimdfleaaGreatDoor.St
