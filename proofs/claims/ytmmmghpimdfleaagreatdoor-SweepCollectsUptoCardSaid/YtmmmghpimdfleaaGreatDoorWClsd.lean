/-
  StoreClosed: the walk of the law.
-/
import Derived.Test.YtmmmghpimdfleaaGreatDoorStock
import Derived.Test.YtmmmghpimdfleaaGreatDoorGrpW
import Derived.Test.YtmmmghpimdfleaaGreatDoorGrpY
import Derived.Test.YtmmmghpimdfleaaGreatDoorGrpX
set_option linter.unusedVariables false
set_option linter.unusedSimpArgs false
namespace Go.Proofs.YtmmmghpimdfleaaGreatDoor.storeClosed
open Go.RowKit Mem Tr St
open Go.Proofs.YtmmmghpimdfleaaGreatDoor.Own
theorem Ec{rc st:Nat->BitVec 32}{r:Rec}(h:aJ.bP rc st r=0):Pre.aF r.path=0/\Sum.codeOf r.tree=0/\r.size=((Sum.bytesOf r.tree).length:Nat)/\r.hash=Sum.nX rc st r.tree/\Pre.bZ r.refs=0:=by
 unfold aJ.bP at h;split at h
 ·split at h
  ·split at h
   ·split at h
    ·exact⟨by assumption,by assumption,by assumption,by assumption,h⟩
    ·cases h
   ·cases h
  ·rename_i h1;exact absurd h h1
 ·rename_i h1;exact absurd h h1
theorem Ph{rc st:Nat->BitVec 32}{rs:List Rec}(hg:aJ.Good rc st rs)(hb:∀r∈rs,r.bulk<=2097152):Small rs:=fun r hr=>by
 have h1:=(Ec (hg.valid r hr)).2.2.1;have h2:=hb r hr;have h3:(Sum.bytesOf r.tree).length<=1073741824:=(by have h4:(Sum.bytesOf r.tree).length<=_:=J4.iR r.tree.kind r.tree.exec r.tree.text r.tree.kids;unfold Rec.bulk Tree.bulk at h2;omega);omega
end Go.Proofs.YtmmmghpimdfleaaGreatDoor.storeClosed
