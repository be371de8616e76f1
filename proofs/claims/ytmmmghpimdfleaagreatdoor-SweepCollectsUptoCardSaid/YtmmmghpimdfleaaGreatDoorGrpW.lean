/-
  A store of two records, the second of which fE to the first: what Add, Order and Cut answer of it.
  The JD fixed question of the program: a tree added is there, and another that fE to it.
-/
import Derived.Test.YtmmmghpimdfleaaGreatDoorGrpV
import Derived.Test.YtmmmghpimdfleaaGreatDoorGrpQ
import Derived.Test.YtmmmghpimdfleaaGreatDoorGrpJ
import Derived.Test.YtmmmghpimdfleaaGreatDoorStock
set_option linter.unusedVariables false
set_option linter.unusedSimpArgs false
namespace Go.Proofs.YtmmmghpimdfleaaGreatDoor
namespace St
open Mem Tr
def og(t:ByteArray):Tree:=⟨1,false,t,.nil⟩
theorem FY:Sum.codeOf (og ⟨#[120]⟩)=0:=by kernel_rfl
theorem Uj:Pre.cZ ⟨#[97]⟩=0:=by kernel_rfl
theorem Uk:Pre.cZ ⟨#[98]⟩=0:=by kernel_rfl

variable (rc st : Nat → BitVec 32)
def rp:Rec:=bY rc st ⟨#[97]⟩ (og ⟨#[120]⟩) []
theorem rC:Pre.bZ []=0:=by kernel_rfl
theorem zn{label:ByteArray}{T:Tree}{refs:List ByteArray}(h1:Sum.codeOf T=0)(h2:Pre.cZ label=0)(h3:Pre.bZ refs=0):aJ.bP rc st (bY rc st label T refs)=0:=by
 unfold aJ.bP;rw[if_pos (show Pre.aF (bY rc st label T refs).path=0 from Xd.Dq rc st refs _ label h2),if_pos (show Sum.codeOf (bY rc st label T refs).tree=0 from h1),
  if_pos (show(bY rc st label T refs).size=((Sum.bytesOf (bY rc st label T refs).tree).length:Nat)from rfl),if_pos (show(bY rc st label T refs).hash=Sum.nX rc st (bY rc st label T refs).tree from rfl)]
 exact h3
theorem Ij{label:ByteArray}{refs:List ByteArray}(h2:Pre.cZ label=0)(h3:Pre.bZ refs=0):Make.bJ refs label=0:=by
 unfold Make.bJ;rw[if_pos h2];exact h3
theorem OI:aJ.eY rc st [] (rp rc st)=0:=by
 unfold aJ.eY;rw[if_pos (show aJ.bP rc st (rp rc st)=0 from zn rc st FY Uj rC)];rfl
theorem zbt:ru rc st [] ⟨#[97]⟩ (og ⟨#[120]⟩) []=0/\xg rc st [] ⟨#[97]⟩ (og ⟨#[120]⟩) [] = [rp rc st]/\tH rc st [] ⟨#[97]⟩ (og ⟨#[120]⟩) []=(rp rc st).path:=by
 have hm:=Ij Uj rC;have hE:ru rc st [] ⟨#[97]⟩ (og ⟨#[120]⟩) []=0:=(by unfold ru;rw[if_pos FY,if_pos hm];exact OI rc st);refine⟨hE,?_,?_⟩
 ·unfold xg;rw[if_pos ⟨FY,hm⟩];unfold aJ.fM;rw[if_pos (show aJ.eY rc st [] (bY rc st ⟨#[97]⟩ (og ⟨#[120]⟩) [])=0 from OI rc st)];rfl
 ·unfold tH;rw[if_pos hE];rfl
end St

namespace St
open Go.RowKit Mem Tr
open Go.Proofs.YtmmmghpimdfleaaGreatDoor.Own
theorem DR(rc st:Nat->BitVec 32):aJ.Good rc st [rp rc st]:=by
 have h:=aJ.qL (r:=rp rc st) (rs:=[]) (rc:=rc) (st:=st) ⟨List.Pairwise.nil,by simp,by simp,by simp⟩ (by
  unfold Rec.bulk;rw[show(rp rc st).path.size=46+1 from qh rc st _ _ _];show 46+1+(og ⟨#[120]⟩).bulk+aB []<=_;decide)
 unfold aJ.fM at h;rw[if_pos (OI rc st)]at h;exact h
theorem OJ(w:World)(p:ByteArray):Strs (fun b=>b=w.heap.size) (w.alloc (.cells #[.string p] 9)) (.slice (some ⟨w.heap.size,0,none⟩) 1 1) [p] :=
 ⟨some ⟨w.heap.size,0,none⟩,1,rfl,Nat.le_refl _,by unfold maxLen;omega,.inr ⟨w.heap.size,0,rfl,rfl,fun j hj=>by
  obtain rfl:j=0:=(by simpa using hj);exact(Bx.new w #[.string p] 9).cell 0⟩⟩
end St
end Go.Proofs.YtmmmghpimdfleaaGreatDoor
