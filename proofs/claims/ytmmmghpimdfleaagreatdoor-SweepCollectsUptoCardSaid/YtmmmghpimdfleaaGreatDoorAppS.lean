/-
  A step: append to a row of the call's own, the row known at the world.
-/
import Derived.Test.YtmmmghpimdfleaaGreatDoorGrpA
import Derived.Deep.RegionHeld3
import Derived.StillTailTactics
set_option linter.unusedVariables false
set_option linter.unusedSimpArgs false
namespace Go.Proofs.YtmmmghpimdfleaaGreatDoor.Iy
open Go.RowKit Mem
theorem mQ{P:Program}{ops:Array Oper}{o:Oper}{a:Act}{w:World}{K:Act->World->Prop}{Q:Exit->Act->World->Prop}{E:Prop}
 (hg:o.guard=none) (s x:Operand) (t:TypeId) (hop:o.op=Op.call { callee:=Callee.builtin Builtin.append,args:=#[s,x],argTypes:=#[t,t] })
 (v u v':Value) (w':World) (hs:a.eval s=v) (hx:a.eval x=u) (hrun:(Builtin.append_ #[t,t] o.type #[v,u]).run P w = .ok v' w') (hK:K (a.put o.dst v') w') :
 if Region.wanted o (yielded ops a.tmps)=true then Oper.wp P o a w K Q else E:=by
 have hw:Region.wanted o (yielded ops a.tmps)=true:=(by simp[Region.wanted,hg]);rw[if_pos hw];unfold Oper.wp;simp[execOp,hop,resolve,invoke,builtin,hs,hx,hrun,Result.andThen];exact hK
section
variable {P : Program}
theorem wpList_append_run{ops:Array Oper}{rest:List Oper}{o:Oper}{a:Act}{w:World}{Q:Exit->Act->World->Prop}(hg:o.guard=none)(s x:Operand)(t:TypeId)(hop:o.op = .call { callee:=.builtin .append,args:=#[s,x],argTypes:=#[t,t] })
 (v u v':Value) (w':World) (hs:a.eval s=v) (hx:a.eval x=u) (hrun:(Builtin.append_ #[t,t] o.type #[v,u]).run P w = .ok v' w') (h:wpList P ops Q rest (a.put o.dst v') w'):wpList P ops Q (o :: rest) a w :=
 wpList_step fun K hK=>mQ hg s x t hop v u v' w' hs hx hrun (hK _ _ h)
end
end Go.Proofs.YtmmmghpimdfleaaGreatDoor.Iy
