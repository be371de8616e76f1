/-
  View.Order: the closure of the roots, each path behind its references, the least first of those that may come.
  Store.Cut where the path is not there or is in use: nothing is cut.
-/
import Derived.Test.YtmmmghpimdfleaaGreatDoorGrpU
import Derived.Test.YtmmmghpimdfleaaGreatDoorGrpR
set_option linter.unusedVariables false
set_option linter.unusedSimpArgs false
namespace Go.Proofs.YtmmmghpimdfleaaGreatDoor.St
open Go.RowKit Mem Tr
open Go.Proofs.YtmmmghpimdfleaaGreatDoor.Own
open Go.Proofs.YtmmmghpimdfleaaGreatDoor.Mp (Mp Fv Rg)

open Classical in
theorem nodup_recs {gs:Got} (h:(paths gs).Nodup):(gs.map (·.1)).Nodup:=by
 unfold paths at h;have e:gs.map (fun x=>x.1.path)=(gs.map (·.1)).map Rec.path:=(by rw [List.map_map];rfl);rw [e] at h;rw [List.nodup_iff_pairwise_ne,List.pairwise_map] at h;exact h.imp (fun hne e=>hne (by rw [e]))
theorem Rg.below {w w':World} {b r n cnt:Nat} {f:Fv} {left:ByteArray->Bool} (h:Rg w b r n f left cnt) (hb:Below w.heap.size w w'):Rg w' b r n f left cnt:=h.block (hb.block b h.mp.lt) (hb.block r h.lt)
end Go.Proofs.YtmmmghpimdfleaaGreatDoor.St

namespace Go.Proofs.YtmmmghpimdfleaaGreatDoor.St
open Go.RowKit Mem Tr
open Go.Proofs.YtmmmghpimdfleaaGreatDoor.Own
def PostCutN (w:World) (rs:List Rec) (p:ByteArray) (e:Ending) (w':World):Prop :=
 Below w.heap.size w w'/\e = .returned (.int .i64 (if Sto.has rs p=true then 170 else 3))
set_option maxHeartbeats 1000000 in
set_option maxRecDepth 20000 in
theorem cutNoC (M F:Nat->Prop) (s:Nat) (rs:List Rec) (p:ByteArray) (w:World) (h:Is M F w s rs) (hn:rs.length<=1073741823) (hu:Sto.has rs p=false∨refd rs p≠[]) :
 Calls Tryz.prog 31 #[.pointer (some ⟨s,0,none⟩),.string p] w (PostCutN w rs p):=by
 have hC:=referrersC M F s rs p w h hn;unfold PostCutN;cases hB:Sto.has rs p with
 | false =>
  have HB:=Lib.hid hB;clear hu h hB
  go_enter Tryz.func31,Tryz.ntmps31
  go_wp2_with fail;refine hC.mono ?_;rintro e w1 ⟨b1,hm⟩;rw [HB.out] at hm;subst hm
  go_wp2_with fail
  go_ret;exact ⟨b1,rfl⟩
 | true =>
  have HB:=Lib.hid hB;have hne:0 < (refd rs p).length:=List.length_pos_iff.2 (hu.resolve_left (by rw [hB];decide));clear hu h hB
  go_enter Tryz.func31,Tryz.ntmps31
  go_wp2_with fail;refine hC.mono ?_;rintro e w1 ⟨b1,hm⟩;rw [HB.out] at hm;obtain ⟨v,rfl,hown⟩:=hm;obtain ⟨ao,c,rfl⟩:=Tab.own_len hown;obtain ⟨n,hn⟩:∃n,(refd rs p).length=n:=⟨_,rfl⟩;rw [hn] at hne ⊢;have hn0:(0:Int) < (n:Int):=(by omega);clear hown hn
  go_wp2_with fail
  go_ret;exact ⟨b1,rfl⟩
end Go.Proofs.YtmmmghpimdfleaaGreatDoor.St
