/-
  What Order keeps in memory: how many paths each path waits for, who uses a path, the heap of the ready ones, the order so far; and what each step does to it.
  Order over plain lists: what stands between two steps, and what each step does.
-/
import Derived.Test.YtmmmghpimdfleaaGreatDoorGrpS
import Derived.Test.YtmmmghpimdfleaaGreatDoorGrpT
set_option linter.unusedVariables false
set_option linter.unusedSimpArgs false
namespace Go.Proofs.YtmmmghpimdfleaaGreatDoor
namespace St
open Go.RowKit Mem Tr
open Go.Proofs.YtmmmghpimdfleaaGreatDoor.Own
open Go.Proofs.YtmmmghpimdfleaaGreatDoor.Mp (Mp Fv Rg lk View zg nY)
theorem fU{α:Type}[DecidableEq α]:∀ {l m:List α},l.Nodup->(∀a∈l,a∈m)->l.length<=m.length
 | [],_,_,_=>Nat.zero_le _
 | a :: l,m,hn,hs=>by
  obtain⟨h1,h2⟩:=List.nodup_cons.1 hn;have h3:=fU (l:=l) (m:=m.erase a) h2 (fun x hx=>(List.mem_erase_of_ne (fun e=>h1 (by rw[←e];exact hx))).2 (hs x (List.mem_cons_of_mem _ hx)));have h4:=hs a (List.mem_cons_self);have h5:=List.length_erase_of_mem h4;have h6:=List.length_pos_of_mem h4;simp only[List.length_cons];omega

section
variable {w wr : World} {bw bu bh : Nat} {ks hs out : List ByteArray} {hv ov : Value} {Wf : ByteArray → Nat} {U : ByteArray → List ByteArray} {fu : Fv}
end
end St

namespace St
open Mem Tr
open Classical

/-! ### the first loop -/
variable {gs : FT} {done hs : List ByteArray} {W : ByteArray → Nat} {U : ByteArray → List ByteArray}
/-! ### the second loop -/
variable {out : List ByteArray}
end St
end Go.Proofs.YtmmmghpimdfleaaGreatDoor
