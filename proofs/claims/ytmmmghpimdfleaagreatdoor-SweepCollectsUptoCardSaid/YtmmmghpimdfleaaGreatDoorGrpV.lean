/-
  View.Order: the closure of the roots, each path behind its references, the least first of those that may come.
  Store.Cut where the path is not there or is in use: nothing is cut.
-/
import Derived.Test.YtmmmghpimdfleaaGreatDoorTk
import Derived.Test.YtmmmghpimdfleaaGreatDoorGrpU
import Derived.Test.YtmmmghpimdfleaaGreatDoorGrpR
set_option linter.unusedVariables false
set_option linter.unusedSimpArgs false
namespace Go.Proofs.YtmmmghpimdfleaaGreatDoor
namespace St
open Go.RowKit Mem Tr
open Go.Proofs.YtmmmghpimdfleaaGreatDoor.Own
open Go.Proofs.YtmmmghpimdfleaaGreatDoor.Mp (Mp Fv Rg)

open Classical in
theorem AV(f:Fv)(r:Rec)(m:List Rec):wt f (r :: m)=(if(f r.path).isSome then 0 else r.refs.length)+wt f m:=rfl
theorem DK(f:Fv)(r:Rec):∀m:List Rec,r∈m->wt f m=(if(f r.path).isSome then 0 else r.refs.length)+wt f (m.erase r)
 | [],h=>by cases h
 | x :: m,h=>by
  by_cases e:x=r
  ·subst e;rw[List.erase_cons_head];rfl
  ·rw[List.erase_cons_tail (by simpa using e)];have:=DK f r m ((List.mem_cons.1 h).resolve_left (fun h1=>e h1.symm));rw[AV,AV];omega
theorem OH(f:Fv):∀ {l m:List Rec},l.Nodup->(∀a∈l,a∈m)->wt f l<=wt f m
 | [],_,_,_=>Nat.zero_le _
 | a :: l,m,hn,hs=>by
  obtain⟨h1,h2⟩:=List.nodup_cons.1 hn;have h3:=OH f (l:=l) (m:=m.erase a) h2 (fun x hx=>(List.mem_erase_of_ne (fun e=>h1 (by rw[←e];exact hx))).2 (hs x (List.mem_cons_of_mem _ hx)));have h4:=DK f a m (hs a List.mem_cons_self);rw[AV];omega
theorem FX{gs:FT}(h:(paths gs).Nodup):(gs.map (·.1)).Nodup:=by
 unfold paths at h;have e:gs.map (fun x=>x.1.path)=(gs.map (·.1)).map Rec.path:=(by rw[List.map_map];rfl);rw[e]at h;rw[List.nodup_iff_pairwise_ne,List.pairwise_map]at h;exact h.imp (fun hne e=>hne (by rw[e]))
theorem Rg.below{w w':World}{b r n cnt:Nat}{f:Fv}{left:ByteArray->Bool}(h:Rg w b r n f left cnt)(hb:Below w.heap.size w w'):Rg w' b r n f left cnt:=h.block (hb.block b h.mp.lt) (hb.block r h.lt)
end St

namespace St
open Go.RowKit Mem Tr
open Go.Proofs.YtmmmghpimdfleaaGreatDoor.Own
def DN(w:World)(rs:List Rec)(p:ByteArray)(e:Ending)(w':World):Prop :=
 Below w.heap.size w w'/\e = .returned (.int .i64 (if aJ.has rs p=true then 170 else 3))
set_option maxHeartbeats 1000000 in
set_option maxRecDepth 20000 in
theorem Xy(M F:Nat->Prop)(s:Nat)(rs:List Rec)(p:ByteArray)(w:World)(h:Is M F w s rs)(hn:rs.length<=1073741823)(hu:aJ.has rs p=false∨gZ rs p≠[]) :
 Calls Tryz.prog 31 #[.pointer (some ⟨s,0,none⟩),.string p] w (DN w rs p):=by
 have hC:=qj M F s rs p w h hn;unfold DN;cases hB:aJ.has rs p with
 | false =>
  have HB:=yH hB;clear hu h hB
  go_enter Tryz.func31,Tryz.ntmps31
  go_wp2_with fail;refine hC.mono ?_;rintro e w1 ⟨b1,hm⟩;rw[HB.out]at hm;subst hm
  go_wp2_with fail
  go_ret;exact⟨b1,rfl⟩
 | true =>
  have HB:=yH hB;have hne:0<(gZ rs p).length:=List.length_pos_iff.2 (hu.resolve_left (by rw[hB];decide));clear hu h hB
  go_enter Tryz.func31,Tryz.ntmps31
  go_wp2_with fail;refine hC.mono ?_;rintro e w1 ⟨b1,hm⟩;rw[HB.out]at hm;obtain⟨v,rfl,hown⟩:=hm;obtain⟨ao,c,rfl⟩:=Tab.aO hown;obtain⟨n,hn⟩:∃n,(gZ rs p).length=n:=⟨_,rfl⟩;rw[hn]at hne ⊢;have hn0:(0:Int)<(n:Int):=(by omega);clear hown hn
  go_wp2_with fail
  go_ret;exact⟨b1,rfl⟩
end St
end Go.Proofs.YtmmmghpimdfleaaGreatDoor
