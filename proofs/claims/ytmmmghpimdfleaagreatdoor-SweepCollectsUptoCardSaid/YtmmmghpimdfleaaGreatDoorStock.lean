/-
  A store that has taken records in, one after the other.
-/
import Derived.Test.YtmmmghpimdfleaaGreatDoorGrpQ
import Derived.Test.YtmmmghpimdfleaaGreatDoorGrpT
import Derived.Test.YtmmmghpimdfleaaGreatDoorOpen
set_option linter.unusedVariables false
set_option linter.unusedSimpArgs false
namespace Go.Proofs.YtmmmghpimdfleaaGreatDoor.St
open Go.RowKit Mem Tr
open Go.Proofs.YtmmmghpimdfleaaGreatDoor.Own
def dV(rc st:Nat->BitVec 32)(rs:List Rec)(l:List Rec):List Rec:=l.foldl (aJ.fM rc st) rs
abbrev tK(rs:List Rec):Nat:=wt (fun _=>none) rs
theorem ou(r:Rec)(l:List Rec):tK (r :: l)=r.refs.length+tK l:=rfl
theorem xC(a b:List Rec):tK (a++b)=tK a+tK b:=by
 induction a with
 | nil=>simp[tK,wt]
 | cons x a ih=>rw[List.cons_append,ou,ou,ih];omega
theorem Iu(rs:List Rec)(r:Rec):tK (Sp.put Rec.path rs r)=tK rs+r.refs.length:=by
 unfold Sp.put;have:tK rs=tK (rs.take (Sp.place Rec.path rs r.path))+tK (rs.drop (Sp.place Rec.path rs r.path)):=(by rw[←xC,List.take_append_drop]);rw[xC,ou];omega
section
variable {rc st : Nat → BitVec 32}
theorem Eb(rs l:List Rec)(r:Rec):dV rc st rs (l ++ [r])=aJ.fM rc st (dV rc st rs l) r:=by
 unfold dV;rw[List.foldl_append];rfl
theorem D8(rs l:List Rec)(k:Nat)(h:k<l.length):dV rc st rs (l.take (k+1))=aJ.fM rc st (dV rc st rs (l.take k)) l[k]:=by
 rw[List.take_succ_eq_append_getElem h,Eb]
theorem Gx{l:List Rec}:∀ {rs:List Rec},aJ.Good rc st rs->(∀r∈l,r.bulk<=4194304)->aJ.Good rc st (dV rc st rs l):=by
 induction l with
 | nil=>intro rs h _;exact h
 | cons r l ih=>intro rs h hb;exact ih (aJ.qL h (hb r (by simp))) (fun x hx=>hb x (by simp[hx]))
theorem Bc(l:List Rec):∀rs:List Rec,(dV rc st rs l).length<=rs.length+l.length:=by
 induction l with
 | nil=>intro rs;exact Nat.le_refl _
 | cons r l ih =>
  intro rs;have h1:=ih (aJ.fM rc st rs r);have h2:=aJ.Dv rc st rs r;show(dV rc st (aJ.fM rc st rs r) l).length<=_;rw[List.length_cons];omega
theorem SS{rs:List Rec}{r x:Rec}(h:x∈aJ.fM rc st rs r):x∈rs∨x=r:=by
 unfold aJ.fM at h;split at h
 ·split at h
  ·exact .inl h
  ·rcases Sp.jo.1 h with e|e
   ·exact .inr e
   ·exact .inl e
 ·exact .inl h
theorem JX{l:List Rec}:∀ {rs:List Rec} {x:Rec},x∈dV rc st rs l->x∈rs∨x∈l:=by
 induction l with
 | nil=>intro rs x h;exact .inl h
 | cons r l ih =>
  intro rs x h;rcases ih (rs:=aJ.fM rc st rs r) h with e|e
  ·rcases SS e with e|e
   ·exact .inl e
   ·exact .inr (by simp[e])
  ·exact .inr (by simp[e])
theorem SV(rs:List Rec)(r:Rec):tK (aJ.fM rc st rs r)<=tK rs+r.refs.length:=by
 unfold aJ.fM;split
 ·split
  ·omega
  ·rw[Iu];exact Nat.le_refl _
 ·omega
theorem JY(l:List Rec):∀rs:List Rec,tK (dV rc st rs l)<=tK rs+tK l:=by
 induction l with
 | nil=>intro rs;exact Nat.le_refl _
 | cons r l ih =>
  intro rs;have h1:=ih (aJ.fM rc st rs r);have h2:=SV (rc:=rc) (st:=st) rs r;show tK (dV rc st (aJ.fM rc st rs r) l)<=_;rw[ou];omega
end
theorem jZ(r:Rec)(l:List Rec):Op.gJ (r :: l)=r.bulk+2+Op.gJ l:=rfl
theorem jy{l:List Rec}{r:Rec}(h:r∈l):r.bulk+2<=Op.gJ l:=by
 induction l with
 | nil=>cases h
 | cons x l ih =>
  rw[jZ];rcases List.mem_cons.1 h with rfl|h
  ·omega
  ·have:=ih h;omega
theorem sK(l:List Rec):2*l.length<=Op.gJ l:=by
 induction l with
 | nil=>exact Nat.le_refl _
 | cons x l ih=>rw[jZ,List.length_cons];omega
theorem Pj(l:List Rec):tK l<=Op.gJ l:=by
 induction l with
 | nil=>exact Nat.le_refl _
 | cons x l ih =>
  rw[jZ,ou];have:=dI x.refs;unfold Rec.bulk;omega
theorem Gn(l:List Rec)(k:Nat):Op.gJ (l.take k)<=Op.gJ l:=by
 induction l generalizing k with
 | nil=>simp
 | cons x l ih =>
  cases k with
  | zero=>exact Nat.zero_le _
  | succ k=>rw[List.take_succ_cons,jZ,jZ];have:=ih k;omega
/-- What holds of a Ir store. -/
structure Stk(rc st:Nat->BitVec 32)(l:List Rec)(rs:List Rec):Prop where
 good:aJ.Good rc st rs
 len:rs.length<=l.length
 mem:∀r∈rs,r∈l
 wt:tK rs<=tK l
theorem stk(rc st:Nat->BitVec 32)(l:List Rec)(hb:Op.gJ l<=4194304):Stk rc st l (dV rc st [] l) :=
 ⟨Gx (aJ.Dt rc st) (fun r h=>by have:=jy h;omega),by have:=Bc (rc:=rc) (st:=st) l [];simpa using this,fun r h=>(JX h).resolve_left (by simp),by have:=JY (rc:=rc) (st:=st) l [];simpa[tK,wt]using this⟩
theorem sN:∃a,Tryz.prog.info? 31=some a/\a.size=39:=by
 obtain⟨i0,hi0,_,hz1,_⟩:=info_parts Ins.fO;exact⟨i0,hi0,hz1⟩
/-- What Ir gives. -/
def JL(w:World)(rs:List Rec)(e:Ending)(w':World):Prop:=∃M F s,e = .returned (.pointer (some ⟨s,0,none⟩))/\Is M F w' s rs/\(∀b,M b∨F b->w.heap.size<=b)/\Below w.heap.size w w'
end Go.Proofs.YtmmmghpimdfleaaGreatDoor.St
