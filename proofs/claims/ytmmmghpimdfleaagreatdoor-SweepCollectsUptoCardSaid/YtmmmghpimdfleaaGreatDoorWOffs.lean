/-
  StoreOffers: the walk of the law (printed by tools/zd0.py).
-/
import Derived.Test.YtmmmghpimdfleaaGreatDoorGrpY
import Derived.Test.YtmmmghpimdfleaaGreatDoorGrpW
import Derived.Test.YtmmmghpimdfleaaGreatDoorGrpX
set_option linter.unusedVariables false
set_option linter.unusedSimpArgs false
namespace Go.Proofs.YtmmmghpimdfleaaGreatDoor.storeOffers
open Go.RowKit Mem Tr St
open Go.Proofs.YtmmmghpimdfleaaGreatDoor.Own

section
variable {rc st : Nat → BitVec 32} {rs : List Rec} {r : Rec}
end
/-- Get where the record is there. -/
theorem Iq{M F:Nat->Prop}{s:Nat}{rs:List Rec}{r:Rec}{p:ByteArray}(w:World)(h:Is M F w s rs)(hn:rs.length<=1073741824)(hbk:∀r∈rs,r.bulk<=4194304)(hg:Sp.get Rec.path rs p=some r) :
 Calls Tryz.prog 23 #[.pointer (some ⟨s,0,none⟩),.string p] w fun e w'=>∃oc:List Value,oc.length=39/\(∀v∈oc,v.oneCell'=true)/\e = .returned (.tuple #[.agg oc.toArray,.int .i64 0])/\Below w.heap.size w w'/\aT (fun b=>w.heap.size<=b/\b<w'.heap.size) w' oc r:=by
 refine(CY M F s rs p w h hn hbk).mono ?_;rintro e w' ⟨hb,hm⟩;rw[hg]at hm;obtain⟨cs,rfl,hrec⟩:=hm;exact⟨cs,hrec.length,Tab.dX hrec,rfl,hb,hrec.sub fun b hb h=>⟨h,hb⟩⟩
end Go.Proofs.YtmmmghpimdfleaaGreatDoor.storeOffers
