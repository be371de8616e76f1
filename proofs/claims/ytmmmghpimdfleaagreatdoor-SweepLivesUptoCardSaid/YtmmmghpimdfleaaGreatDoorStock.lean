/-
  A store that has taken records in, one after the other.
-/
import Derived.Test.YtmmmghpimdfleaaGreatDoorGrpQ
import Derived.Test.YtmmmghpimdfleaaGreatDoorGrpT
import Derived.Test.YtmmmghpimdfleaaGreatDoorOpen
set_option linter.unusedVariables false
set_option linter.unusedSimpArgs false
namespace Go.Proofs.YtmmmghpimdfleaaGreatDoor.St
open Go.RowKit Mem Tr
open Go.Proofs.YtmmmghpimdfleaaGreatDoor.Own
def stockF (rc st:Nat->BitVec 32) (rs:List Rec) (l:List Rec):List Rec:=l.foldl (Sto.insS rc st) rs
abbrev wt0 (rs:List Rec):Nat:=wt (fun _=>none) rs
theorem wt0_cons (r:Rec) (l:List Rec):wt0 (r :: l)=r.refs.length+wt0 l:=rfl
theorem wt0_append (a b:List Rec):wt0 (a ++ b)=wt0 a+wt0 b:=by
 induction a with
 | nil=>simp [wt0,wt]
 | cons x a ih=>rw [List.cons_append,wt0_cons,wt0_cons,ih];omega
theorem wt0_put (rs:List Rec) (r:Rec):wt0 (Sp.put Rec.path rs r)=wt0 rs+r.refs.length:=by
 unfold Sp.put;have:wt0 rs=wt0 (rs.take (Sp.place Rec.path rs r.path))+wt0 (rs.drop (Sp.place Rec.path rs r.path)):=(by rw [←wt0_append,List.take_append_drop]);rw [wt0_append,wt0_cons];omega
section
variable {rc st : Nat → BitVec 32}
theorem stockF_snoc (rs l:List Rec) (r:Rec):stockF rc st rs (l ++ [r])=Sto.insS rc st (stockF rc st rs l) r:=by
 unfold stockF;rw [List.foldl_append];rfl
theorem stockF_take (rs l:List Rec) (k:Nat) (h:k < l.length):stockF rc st rs (l.take (k+1))=Sto.insS rc st (stockF rc st rs (l.take k)) l[k]:=by
 rw [List.take_succ_eq_append_getElem h,stockF_snoc]
theorem good_stock {l:List Rec}:∀ {rs:List Rec},Sto.Good rc st rs->(∀r∈l,r.bulk<=4194304)->Sto.Good rc st (stockF rc st rs l):=by
 induction l with
 | nil=>intro rs h _;exact h
 | cons r l ih=>intro rs h hb;exact ih (Sto.good_ins h (hb r (by simp))) (fun x hx=>hb x (by simp [hx]))
theorem stock_length (l:List Rec):∀rs:List Rec,(stockF rc st rs l).length<=rs.length+l.length:=by
 induction l with
 | nil=>intro rs;exact Nat.le_refl _
 | cons r l ih =>
  intro rs;have h1:=ih (Sto.insS rc st rs r);have h2:=Sto.insS_length rc st rs r;show (stockF rc st (Sto.insS rc st rs r) l).length<=_;rw [List.length_cons];omega
theorem mem_ins {rs:List Rec} {r x:Rec} (h:x∈Sto.insS rc st rs r):x∈rs∨x=r:=by
 unfold Sto.insS at h;split at h
 · split at h
   · exact .inl h
   · rcases Sp.mem_put.1 h with e | e
     · exact .inr e
     · exact .inl e
 · exact .inl h
theorem mem_stock {l:List Rec}:∀ {rs:List Rec} {x:Rec},x∈stockF rc st rs l->x∈rs∨x∈l:=by
 induction l with
 | nil=>intro rs x h;exact .inl h
 | cons r l ih =>
  intro rs x h;rcases ih (rs:=Sto.insS rc st rs r) h with e | e
  · rcases mem_ins e with e | e
    · exact .inl e
    · exact .inr (by simp [e])
  · exact .inr (by simp [e])
theorem wt0_ins (rs:List Rec) (r:Rec):wt0 (Sto.insS rc st rs r)<=wt0 rs+r.refs.length:=by
 unfold Sto.insS;split
 · split
   · omega
   · rw [wt0_put];exact Nat.le_refl _
 · omega
theorem wt0_stock (l:List Rec):∀rs:List Rec,wt0 (stockF rc st rs l)<=wt0 rs+wt0 l:=by
 induction l with
 | nil=>intro rs;exact Nat.le_refl _
 | cons r l ih =>
  intro rs;have h1:=ih (Sto.insS rc st rs r);have h2:=wt0_ins (rc:=rc) (st:=st) rs r;show wt0 (stockF rc st (Sto.insS rc st rs r) l)<=_;rw [wt0_cons];omega
end
theorem bulkR_cons (r:Rec) (l:List Rec):Op.bulkR (r :: l)=r.bulk+2+Op.bulkR l:=rfl
theorem bulkR_mem {l:List Rec} {r:Rec} (h:r∈l):r.bulk+2<=Op.bulkR l:=by
 induction l with
 | nil=>cases h
 | cons x l ih =>
  rw [bulkR_cons];rcases List.mem_cons.1 h with rfl | h
  · omega
  · have:=ih h;omega
theorem bulkR_len (l:List Rec):2*l.length<=Op.bulkR l:=by
 induction l with
 | nil=>exact Nat.le_refl _
 | cons x l ih=>rw [bulkR_cons,List.length_cons];omega
theorem bulkR_wt (l:List Rec):wt0 l<=Op.bulkR l:=by
 induction l with
 | nil=>exact Nat.le_refl _
 | cons x l ih =>
  rw [bulkR_cons,wt0_cons];have:=length_bulks x.refs;unfold Rec.bulk;omega
theorem bulkR_take (l:List Rec) (k:Nat):Op.bulkR (l.take k)<=Op.bulkR l:=by
 induction l generalizing k with
 | nil=>simp
 | cons x l ih =>
  cases k with
  | zero=>exact Nat.zero_le _
  | succ k=>rw [List.take_succ_cons,bulkR_cons,bulkR_cons];have:=ih k;omega
/-- What holds of a stocked store. -/
structure Stk (rc st:Nat->BitVec 32) (l:List Rec) (rs:List Rec):Prop where
 good:Sto.Good rc st rs
 len:rs.length<=l.length
 mem:∀r∈rs,r∈l
 wt:wt0 rs<=wt0 l
theorem stk (rc st:Nat->BitVec 32) (l:List Rec) (hb:Op.bulkR l<=4194304):Stk rc st l (stockF rc st [] l) :=
 ⟨good_stock (Sto.good_nil rc st) (fun r h=>by have:=bulkR_mem h;omega),by have:=stock_length (rc:=rc) (st:=st) l [];simpa using this,fun r h=>(mem_stock h).resolve_left (by simp),by have:=wt0_stock (rc:=rc) (st:=st) l [];simpa [wt0,wt] using this⟩
theorem infoEx:∃a,Tryz.prog.info? 31=some a/\a.size=39:=by
 obtain ⟨i0,hi0,_,hz1,_⟩:=info_parts Ins.infoRec;exact ⟨i0,hi0,hz1⟩
/-- What stocked gives. -/
def PostStock (w:World) (rs:List Rec) (e:Ending) (w':World):Prop:=∃M F s,e = .returned (.pointer (some ⟨s,0,none⟩))/\Is M F w' s rs/\(∀b,M b∨F b->w.heap.size<=b)/\Below w.heap.size w w'
end Go.Proofs.YtmmmghpimdfleaaGreatDoor.St
