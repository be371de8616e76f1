/-
  A map of the call's own, keyed by texts, as a function from texts to values: made, read, written, ranged over.
  View.reach: the records that are reached from the roots, as a map.
-/
import Derived.Test.YtmmmghpimdfleaaGreatDoorTk
import Derived.Test.YtmmmghpimdfleaaGreatDoorGrpR
import Derived.Maps.OwnSet
import Derived.Maps.Range
import Derived.StringKeys
import Derived.Test.YtmmmghpimdfleaaGreatDoorGrpQ
import Derived.Deep.LoopGhost
import Derived.Deep.Upon
set_option linter.unusedVariables false
set_option linter.unusedSimpArgs false
namespace Go.Proofs.YtmmmghpimdfleaaGreatDoor
namespace Mp
open Go.RowKit Mem
open Go.Maps (Keyed)
def zg(v:Value):Option (DataW Value × List MemPlace):=some (.held v,[])
def lk(k:ByteArray):Lit:=.string k.data.toList
theorem FQ{a b:ByteArray}(h:lk a=lk b):a=b:=by
 unfold lk at h;exact Lb.str_eq (Lit.string.inj h)
theorem isLit(k:ByteArray):WideAt.IsKeyLit (lk k):=trivial
abbrev Fv:=ByteArray->Option Value
def View(D:DataW Value)(f:Fv):Prop:=∀k,Maps.has D (lk k)=(f k).isSome/\∀v,f k=some v->∀z,D.atKey (lk k) z = .held v
def Mp(w:World)(b n:Nat)(f:Fv):Prop:=∃D,w.ownsMap Tryz.prog 9 zg b n D/\View D f
def put(f:Fv)(k:ByteArray)(v:Value):Fv:=fun k'=>if k'=k then some v else f k'
theorem nY:Keyed Tryz.prog 9:=Go.Maps.string_keyed Tryz.underlying9
theorem keyS{s:ByteArray}(hs:s.size<=maxLen):keyOf Tryz.prog 9 (.string s)=some (lk s):=WideMaps.keyOf_string_mk Tryz.underlying9 hs
theorem made(w:World):Mp (w.alloc (.map #[] 0)) w.heap.size 0 (fun _=>none):=⟨_,World.ownsMap_made w _ _ _,fun k=>⟨rfl,fun v h=>by cases h⟩⟩
theorem Mp.lt{w:World}{b n:Nat}{f:Fv}(h:Mp w b n f):b<w.heap.size:=by obtain⟨D,h1,_⟩:=h;exact h1.lt
theorem Mp.kept{w w':World}{b n:Nat}{f:Fv}{row:Option Nat}(h:Mp w b n f)(hg:w.grownBy w' row)(hne:some b≠row):Mp w' b n f:=by
 obtain⟨D,h1,h2⟩:=h;exact⟨D,h1.kept hg hne,h2⟩
theorem Mp.block{w w':World}{b n:Nat}{f:Fv}(h:Mp w b n f)(hb:w'.heap[b]? = w.heap[b]?):Mp w' b n f:=by
 obtain⟨D,⟨es,clock,h0,r⟩,h2⟩:=h;exact⟨D,⟨es,clock,hb.trans h0,r⟩,h2⟩
theorem Mp.kp{M:Nat->Prop}{w w':World}{b n:Nat}{f:Fv}(h:Mp w b n f)(hk:Kp M w w')(hn:¬M b):Mp w' b n f:=h.block (hk.block b h.lt hn)
theorem Mp.below{w w':World}{b n:Nat}{f:Fv}(h:Mp w b n f)(hb:Below w.heap.size w w'):Mp w' b n f:=h.block (hb.block b h.lt)
theorem Mp.ql{w:World}{b n B k m:Nat}{f:Fv}{t:TypeId}{v:Value}{xs:List Value}(h:Mp w b n f)(hr:w.ownsRow B t k v m xs):v.ownBlock≠some b:=by
 obtain⟨D,⟨es,clock,h0,r⟩,h2⟩:=h;rcases hr.2 with⟨rfl,_⟩|⟨g,cap,cur,rfl,_,hg,_⟩
 ·simp[Value.ownBlock]
 ·intro e;obtain rfl:g=b:=(by simpa[Value.ownBlock]using e);rw[hg]at h0;cases h0
/-- 'v, ok := m[k]' -/
theorem Mp.look_ok{w:World}{b n:Nat}{f:Fv}{t e:TypeId}(h:Mp w b n f)(ht:Tryz.prog.underlying t=some (.map 9 e)){z:Value}(hz:(zeroValue e).run Tryz.prog w = .ok z w){k:ByteArray}(hk:k.size<=maxLen) :
 (Instr.lookup t (.map (some b)) (.string k) true).run Tryz.prog w = .ok (.tuple #[(f k).getD z,.bool (f k).isSome]) w:=by
 obtain⟨D,h1,h2⟩:=h;obtain⟨v,ps,hrun,hv⟩:=h1.look_ok nY ht hz (zd:=.held z) (zp:=[]) rfl (keyS hk);obtain⟨e1,e2⟩:=h2 k;rw[hrun,e1];have hv':DataW.held v=D.atKey (lk k) (.held z):=(by have:=Option.some.inj hv;exact(Prod.mk.inj this).1);cases hf:f k with
 | none =>
  rw[hf]at e1;rw[Maps.atKey_of_not_has e1]at hv';rw[DataW.held.inj hv'];rfl
 | some u =>
  rw[e2 u hf]at hv';rw[DataW.held.inj hv'];rfl
/-- 'm[k]' -/
theorem Mp.look{w:World}{b n:Nat}{f:Fv}{t e:TypeId}(h:Mp w b n f)(ht:Tryz.prog.underlying t=some (.map 9 e)){z:Value}(hz:(zeroValue e).run Tryz.prog w = .ok z w){k:ByteArray}(hk:k.size<=maxLen) :
 (Instr.lookup t (.map (some b)) (.string k) false).run Tryz.prog w = .ok ((f k).getD z) w:=by
 obtain⟨D,h1,h2⟩:=h;obtain⟨v,ps,hrun,hv⟩:=h1.lookup nY ht hz (zd:=.held z) (zp:=[]) rfl (keyS hk);obtain⟨e1,e2⟩:=h2 k;rw[hrun];have hv':DataW.held v=D.atKey (lk k) (.held z):=(by have:=Option.some.inj hv;exact(Prod.mk.inj this).1);cases hf:f k with
 | none =>
  rw[hf]at e1;rw[Maps.atKey_of_not_has e1]at hv';rw[DataW.held.inj hv'];rfl
 | some u =>
  rw[e2 u hf]at hv';rw[DataW.held.inj hv'];rfl
/-- 'm[k] = v' -/
theorem Mp.store{w:World}{b n:Nat}{f:Fv}{t e:TypeId}(h:Mp w b n f)(ht:Tryz.prog.underlying t=some (.map 9 e))(hn:n<maxLen){k:ByteArray}(hk:k.size<=maxLen)(v:Value) :
 ∃w',(Instr.mapUpdate t (.map (some b)) (.string k) v).run Tryz.prog w = .ok () w'/\Mp w' b (n+1) (put f k v)/\w.grownBy w' (some b)/\w'.heap.size=w.heap.size:=by
 obtain⟨D,h1,h2⟩:=h;obtain⟨w',hrun,h3,h4⟩:=h1.store nY ht hn (keyS hk) (d:=.held v) (ps:=[]) (val:=v) rfl;refine⟨w',hrun,⟨_,h3,fun k'=>?_⟩,h4.grown,?_⟩
 ·have him:=h1.isMap;by_cases e:k'=k
  ·subst e;refine⟨?_,fun u hu z=>?_⟩
   ·rw[Maps.has_put_same him (isLit _)];simp[put]
   ·simp[put]at hu;subst hu;exact Maps.atKey_put_same him (isLit _) _ _
  ·have hne:lk k'≠lk k:=fun h=>e (FQ h)
   refine⟨?_,fun u hu z=>?_⟩
   ·rw[Maps.has_put_other hne,(h2 k').1];simp[put,e]
   ·simp[put,e]at hu;rw[Maps.atKey_put_other hne];exact(h2 k').2 u hu z
 ·obtain⟨es,clock,es',clock',_,rfl⟩:=h4;simp[ChangeMaps.setBlock]
/-- a range under way -/
def Rg(w:World)(b r n:Nat)(f:Fv)(left:ByteArray->Bool)(cnt:Nat):Prop:=∃D l,w.ranges Tryz.prog 9 zg b r n D l cnt/\View D f/\∀k,l (lk k)=left k
theorem Rg.mp{w:World}{b r n cnt:Nat}{f:Fv}{left:ByteArray->Bool}(h:Rg w b r n f left cnt):Mp w b n f:=by
 obtain⟨D,l,h1,h2,_⟩:=h;exact⟨D,h1.owns,h2⟩
theorem Rg.lt{w:World}{b r n cnt:Nat}{f:Fv}{left:ByteArray->Bool}(h:Rg w b r n f left cnt):r<w.heap.size:=by
 obtain⟨D,l,h1,h2,_⟩:=h;exact h1.lt
theorem Rg.block{w w':World}{b r n cnt:Nat}{f:Fv}{left:ByteArray->Bool}(h:Rg w b r n f left cnt)(hb:w'.heap[b]? = w.heap[b]?)(hr:w'.heap[r]? = w.heap[r]?):Rg w' b r n f left cnt:=by
 obtain⟨D,l,⟨es,clock,since,seen,c0,a1,a2,a3,a4,a5,rest⟩,h2,h3⟩:=h;exact⟨D,l,⟨es,clock,since,seen,c0,hb.trans a1,a2,a3,a4,hr.trans a5,rest⟩,h2,h3⟩
theorem Rg.kept{w w':World}{row:Option Nat}{b r n cnt:Nat}{f:Fv}{left:ByteArray->Bool}(h:Rg w b r n f left cnt)(hk:w.grownBy w' row)(hb:some b≠row)(hr:some r≠row):Rg w' b r n f left cnt:=h.block (hk.block b h.mp.lt hb) (hk.block r h.lt hr)
theorem Rg.ql{w:World}{b r n cnt B k m:Nat}{f:Fv}{left:ByteArray->Bool}{t:TypeId}{v:Value}{xs:List Value}(h:Rg w b r n f left cnt)(hr:w.ownsRow B t k v m xs):v.ownBlock≠some r:=by
 obtain⟨D,l,⟨es,clock,since,seen,c0,a1,a2,a3,a4,a5,rest⟩,h2,h3⟩:=h;rcases hr.2 with⟨rfl,_⟩|⟨g,cap,cur,rfl,_,hg,_⟩
 ·simp[Value.ownBlock]
 ·intro e;obtain rfl:g=r:=(by simpa[Value.ownBlock]using e);rw[hg]at a5;cases a5
/-- 'range m' -/
theorem Mp.range{w:World}{b n:Nat}{f:Fv}{t e:TypeId}(h:Mp w b n f)(ht:Tryz.prog.underlying t=some (.map 9 e)) :
 ∃w' cnt,(Instr.range t (.map (some b))).run Tryz.prog w = .ok (.pointer (some ⟨w.heap.size,0,none⟩)) w'/\Rg w' b w.heap.size n f (fun k=>(f k).isSome) cnt/\w.grownBy w' none/\w'.heap.size=w.heap.size+1/\cnt<=n:=by
 obtain⟨D,h1,h2⟩:=h;obtain⟨w',hrun,h3,h4,h5⟩:=h1.range nY ht;exact⟨w',_,hrun,⟨D,_,h3,h2,fun k=>(h2 k).1⟩,h4,h5,h1.size_le⟩
/-- a step of the range -/
theorem Rg.next{w:World}{b r n cnt:Nat}{f:Fv}{left:ByteArray->Bool}(h:Rg w b r n f left cnt)(ty:TypeId) :
 (cnt=0/\(∀k,left k=false)/\(Instr.next (.pointer (some ⟨r,0,none⟩)) false ty).run Tryz.prog w = .ok (.tuple #[.bool false]) w) ∨
 ∃k v w' cnt',k.size<=maxLen/\left k=true/\f k=some v/\(Instr.next (.pointer (some ⟨r,0,none⟩)) false ty).run Tryz.prog w = .ok (.tuple #[.bool true,.string k,v]) w' /\
  Rg w' b r n f (fun x=>left x&&decide (x≠k)) cnt'/\cnt'<cnt/\w.grownBy w' (some r)/\w'.heap.size=w.heap.size/\(Instr.entry (.pointer (some ⟨r,0,none⟩))).run Tryz.prog w' = .ok (.tuple #[.string k,v]) w':=by
 obtain⟨D,l,h1,h2,h3⟩:=h;rcases h1.next nY ty with⟨h0,hl,hrun⟩|⟨key,v,kl,y,w',cnt',hkey,hlk,hv,hat,hrun,hrg,hlt,hgr,hsz,hen⟩
 ·exact .inl ⟨h0,fun k=>by rw[←h3];exact hl _,hrun⟩
 ·obtain⟨s,rfl,rfl,hs⟩:=WideMaps.string_of_keyOf Tryz.underlying9 hkey;have hls:left s=true:=(by rw[←h3];exact hlk);have hy:y=(.held v,[]):=(Option.some.inj hv).symm;subst hy;have hfs:f s=some v:=by
   have e1:=(h2 s).1;have e2:=(h2 s).2;cases hf:f s with
   | none =>
    rw[hf]at e1;have:=Maps.atKey_of_not_has e1 .nil;have h4:D.atKey (lk s) .nil = .held v:=hat .nil;rw[h4]at this;cases this
   | some u =>
    have h4:D.atKey (lk s) .nil = .held v:=hat .nil;rw[e2 u hf]at h4;rw[DataW.held.inj h4]
  refine .inr ⟨s,v,w',cnt',hs,hls,hfs,hrun,⟨D,_,hrg,h2,fun k=>?_⟩,hlt,hgr,hsz,hen⟩;show(l (lk k) && !(lk k).sameKey (lk s))=_;rw[h3];by_cases e:k=s
  ·subst e;rw[WideAt.sameKey_self (isLit k)];simp
  ·rw[Maps.sameKey_ne (fun h=>e (FQ h))];simp[e]
end Mp

namespace St
open Go.RowKit Mem Tr
open Go.Proofs.YtmmmghpimdfleaaGreatDoor.Own
open Go.Proofs.YtmmmghpimdfleaaGreatDoor.Mp (Mp Fv Rg)

section
variable {P : Program}
/-- THE OPERATION 'append(d, s...)' FOR THE WALK, WHERE ITS RUN IS KNOWN BY AN EQUATION. -/
theorem wpList_append_run(w:World){ops:Array Oper}{rest:List Oper}{o:Oper}{a:Act}{Q:Exit->Act->World->Prop}(hgd:o.guard=none)(d s:Operand)(t t':TypeId)
 (ho:o.op = .call { callee:=.builtin .append,args:=#[d,s],argTypes:=#[t,t'] }) (v u:Value) (hd:a.eval d=v) (hs:a.eval s=u) {v':Value} {w':World}
 (hr:(Builtin.append_ #[t,t'] o.type #[v,u]).run P w = .ok v' w') (h:wpList P ops Q rest (a.put o.dst v') w'):wpList P ops Q (o :: rest) a w:=by
 refine wpList_plain hgd fun K hK=>?_
 unfold Oper.wp execOp;simp only[ho,resolve,invoke,builtin,Sem.run_bind,Sem.run_pure,Result.andThen_ok,List.map_toArray,List.map_cons,List.map_nil,hd,hs,hr];exact hK _ _ h
end
/-- reached from the roots -/
inductive tY (rs:List Rec) (roots:List ByteArray):ByteArray->Prop where
 | root {p:ByteArray} (h:p∈roots):tY rs roots p
 | step {r:Rec} {q:ByteArray} (h:tY rs roots r.path) (hr:r∈rs) (hq:q∈r.refs):tY rs roots q
abbrev FT:=List (Rec × List Value)
def paths(gs:FT):List ByteArray:=gs.map fun x=>x.1.path
def gz(gs:FT):Fv:=fun k=>(gs.find? fun x=>decide (x.1.path=k)).map fun x=>.agg x.2.toArray
theorem OD:gz []=fun _=>none:=rfl
theorem zh{gs:FT}{k:ByteArray}(h:gz gs k=none):k ∉ paths gs:=by
 intro hk;obtain⟨x,hx,rfl⟩:=List.mem_map.1 hk;unfold gz at h;rw[Option.map_eq_none_iff,List.find?_eq_none]at h;exact h x hx (by simp)
theorem zi{gs:FT}{k:ByteArray}{v:Value}(h:gz gs k=some v):∃x∈gs,x.1.path=k/\v = .agg x.2.toArray:=by
 unfold gz at h;rw[Option.map_eq_some_iff]at h;obtain⟨x,hx,rfl⟩:=h;exact⟨x,List.mem_of_find?_eq_some hx,by simpa using List.find?_some hx,rfl⟩
theorem zk{gs:FT}{r:Rec}{cs:List Value}(h:gz gs r.path=none):gz (gs ++ [(r,cs)])=Mp.put (gz gs) r.path (.agg cs.toArray):=by
 funext k;unfold Mp.put;by_cases e:k=r.path
 ·subst e;rw[if_pos rfl];unfold gz at h ⊢;rw[Option.map_eq_none_iff]at h;rw[List.find?_append,h];simp
 ·rw[if_neg e];unfold gz;rw[List.find?_append];have:List.find? (fun x:Rec × List Value=>decide (x.1.path=k)) [(r,cs)]=none:=by
   rw[List.find?_eq_none];intro x hx;simp at hx;subst hx
   simpa using fun e'=>e e'.symm
  rw[this,Option.or_none]
theorem nZ{gs:FT}{k:ByteArray}:(gz gs k).isSome=true↔k∈paths gs:=by
 constructor
 ·intro h;obtain⟨v,hv⟩:=Option.isSome_iff_exists.1 h;obtain⟨x,hx,rfl,_⟩:=zi hv;exact List.mem_map_of_mem hx
 ·intro h;cases hg:gz gs k with
  | none=>exact absurd h (zh hg)
  | some v=>rfl
/-- what is still to come of references -/
def wt(f:Fv):List Rec->Nat
 | []=>0
 | r :: l=>(if(f r.path).isSome then 0 else r.refs.length)+wt f l
theorem zl(f:Fv)(k:ByteArray)(v:Value):∀l,wt (Mp.put f k v) l<=wt f l
 | []=>Nat.le_refl _
 | r :: l=>by
  have h1:=zl f k v l;unfold wt Mp.put;by_cases e:r.path=k
  ·simp[e];unfold Mp.put at h1;omega
  ·simp[e];unfold Mp.put at h1;omega
theorem FU(f:Fv)(r:Rec)(v:Value)(hf:f r.path=none):∀l,r∈l->wt (Mp.put f r.path v) l+r.refs.length<=wt f l
 | [],h=>by cases h
 | x :: l,h=>by
  have h1:=zl f r.path v l;by_cases e:x=r
  ·subst e;have e1:wt (Mp.put f x.path v) (x :: l)=wt (Mp.put f x.path v) l:=(by rw[wt];simp[Mp.put]);have e2:wt f (x :: l)=x.refs.length+wt f l:=(by rw[wt];simp[hf]);omega
  ·have h2:=FU f r v hf l (by simpa[show ¬r=x from fun e'=>e e'.symm]using h);have e1:wt (Mp.put f r.path v) (x :: l)<=(if(f x.path).isSome then 0 else x.refs.length)+wt (Mp.put f r.path v) l:=by
    rw[wt];by_cases e':x.path=r.path
    ·simp[Mp.put,e']
    ·simp[Mp.put,e']
   have e2:wt f (x :: l)=(if(f x.path).isSome then 0 else x.refs.length)+wt f l:=rfl;omega
/-- what stands between two rounds, without the memory -/
structure PI(rs:List Rec)(roots todo:List ByteArray)(gs:FT):Prop where
 nodup:(paths gs).Nodup
 from':∀x∈gs,x.1∈rs
 rch:∀p∈todo,tY rs roots p
 got:∀p∈paths gs,tY rs roots p
 roots':∀p∈roots,p∈todo∨p∈paths gs
 refs:∀x∈gs,∀q∈x.1.refs,q∈todo∨q∈paths gs
theorem PI.start(rs:List Rec)(roots:List ByteArray):PI rs roots roots []:=⟨List.nodup_nil,fun _ h=>absurd h (by simp),fun p h=>.root h,fun _ h=>absurd h (by simp[paths]),fun p h=>.inl h,fun _ h=>absurd h (by simp)⟩
theorem PI.skip{rs:List Rec}{roots ini:List ByteArray}{p:ByteArray}{gs:FT}(h:PI rs roots (ini ++ [p]) gs)(hp:p∈paths gs):PI rs roots ini gs:=by
 refine⟨h.nodup,h.from',fun q hq=>h.rch q (List.mem_append_left _ hq),h.got,fun q hq=>?_,fun x hx q hq=>?_⟩
 ·rcases h.roots' q hq with h1|h1
  ·rcases List.mem_append.1 h1 with h2|h2
   ·exact .inl h2
   ·simp at h2;subst h2;exact .inr hp
  ·exact .inr h1
 ·rcases h.refs x hx q hq with h1|h1
  ·rcases List.mem_append.1 h1 with h2|h2
   ·exact .inl h2
   ·simp at h2;subst h2;exact .inr hp
  ·exact .inr h1
theorem PI.take{rs:List Rec}{roots ini:List ByteArray}{r:Rec}{cs:List Value}{gs:FT}(h:PI rs roots (ini ++ [r.path]) gs)(hp:r.path ∉ paths gs)(hr:r∈rs):PI rs roots (ini++r.refs) (gs ++ [(r,cs)]):=by
 have AU:=h.rch r.path (by simp);have hpp:paths (gs ++ [(r,cs)])=paths gs ++ [r.path]:=(by simp[paths]);have turn:∀q,q∈ini ++ [r.path]∨q∈paths gs->q∈ini++r.refs∨q∈paths gs ++ [r.path]:=by
  intro q hq;rcases hq with h1|h1
  ·rcases List.mem_append.1 h1 with h2|h2
   ·exact .inl (List.mem_append_left _ h2)
   ·exact .inr (List.mem_append_right _ h2)
  ·exact .inr (List.mem_append_left _ h1)
 refine⟨?_,fun x hx=>?_,fun q hq=>?_,fun q hq=>?_,fun q hq=>?_,fun x hx q hq=>?_⟩
 ·rw[hpp,List.nodup_append];refine⟨h.nodup,by simp,?_⟩;intro a ha b hb;simp at hb;subst hb;rintro rfl;exact hp ha
 ·rcases List.mem_append.1 hx with h1|h1
  ·exact h.from' x h1
  ·simp at h1;subst h1;exact hr
 ·rcases List.mem_append.1 hq with h1|h1
  ·exact h.rch q (List.mem_append_left _ h1)
  ·exact .step AU hr h1
 ·rw[hpp]at hq;rcases List.mem_append.1 hq with h1|h1
  ·exact h.got q h1
  ·simp at h1;subst h1;exact AU
 ·rw[hpp];exact turn q (h.roots' q hq)
 ·rw[hpp];rcases List.mem_append.1 hx with h1|h1
  ·exact turn q (h.refs x h1 q hq)
  ·simp at h1;subst h1;exact .inl (List.mem_append_right _ hq)
theorem PI.done{rs:List Rec}{roots:List ByteArray}{gs:FT}(h:PI rs roots [] gs)(hinj:∀a∈rs,∀b∈rs,a.path=b.path->a=b)(p:ByteArray):p∈paths gs↔tY rs roots p:=by
 refine⟨h.got p,fun hp=>?_⟩
 induction hp with
 | root h1=>exact(h.roots' _ h1).resolve_left (by simp)
 | @step r q h1 hr hq ih =>
  obtain⟨x,hx,e⟩:=List.mem_map.1 ih;have:x.1=r:=hinj _ (h.from' x hx) _ hr e;exact(h.refs x hx q (by rw[this];exact hq)).resolve_left (by simp)
def JB(F:Nat->Prop)(w:World)(rs:List Rec)(roots:List ByteArray)(e:Ending)(w':World):Prop :=
 Below w.heap.size w w'/\((∃q,tY rs roots q/\aJ.has rs q=false/\e = .returned (.tuple #[.map none,.int .i64 3])) ∨
  ∃b gs,e = .returned (.tuple #[.map (some b),.int .i64 0])/\w.heap.size<=b/\Mp w' b gs.length (gz gs)/\(paths gs).Nodup/\(∀x∈gs,x.1∈rs/\aT F w' x.2 x.1)/\∀p,p∈paths gs↔tY rs roots p)
theorem zbk(w:World):(Instr.makeMap 126 none).run Tryz.prog w = .ok (.map (some w.heap.size)) (w.alloc (.map #[] 0)):=run_makeMap _ w
theorem zbl(w:World):(zeroValue 31).run Tryz.prog w = .ok Ins.ah w:=by kernel_rfl
/-- 'append(v, refs...)' -/
theorem DI{S:Nat->Prop}{w:World}{B:Nat}{v rv:Value}{n:Nat}{xs:List Value}{l:List ByteArray}(ho:w.ownsRow B 9 1 v n xs)(h:Strs S w rv l)(hn:n+l.length<=8796093022208)(hB:B<=w.heap.size)(ty:TypeId) :
 ∃v' w',(Builtin.append_ #[27,27] ty #[v,rv]).run Tryz.prog w = .ok v' w'/\w'.ownsRow B 9 1 v' (n+l.length) (xs++l.map .string)/\w.grownBy w' v.ownBlock:=by
 obtain⟨i0,hi,hz0,hz1,hz2⟩:=info_parts Make.bI;obtain⟨ao,cap,rfl,hl,hm,hk⟩:=h;by_cases h0:l = []
 ·subst h0;obtain⟨a,c,hv⟩:=Tab.aO ho;have hnc:n<=c:=by
   rcases ho.2 with⟨h1,h2⟩|⟨g,cp,cur,h1,_,_,h2,_⟩
   ·rw[hv]at h1;cases h1;omega
   ·rw[hv]at h1;cases h1;omega
  subst hv;refine⟨_,w,run_append_nothing w _ _ ty _ i0 Tryz.underlying27 hi a n c hnc _ ?_,by simpa using ho,(Lb.grown_below (Below.refl _ w)).but _⟩;rw[hz1];cases ao with
  | none=>exact Src.ofNil w Tryz.underlying27 cap
  | some ad=>exact Src.ofSlice w Tryz.underlying27 ad 0 cap [] rfl (by simp) (by simp)
 ·rcases hk with hk|⟨b,off,rfl,hS,hc⟩
  ·exact absurd hk h0
  ·obtain⟨v',w',hr,h2,h3,_⟩:=run_append_own (P:=Tryz.prog) w B 27 ty 9 i0 (.string ⟨#[]⟩) 1 16 Tryz.underlying27 hi hz0 hz1 hz2 rfl (by decide) v n xs ho ⟨b,off,none⟩ l.length cap (l.map .string) (by simp) (fun j u hj=>by
    have hjl:j<l.length:=(by have:=(List.getElem?_eq_some_iff.1 hj).1;simpa using this);rw[List.getElem?_map,List.getElem?_eq_getElem hjl]at hj;simp at hj;subst hj;rw[Addr.add_lit];exact hc j hjl) (by intro u hu;obtain⟨x,_,rfl⟩:=List.mem_map.1 hu;rfl) (by unfold maxLen;omega) (by omega) hB
   exact⟨v',w',hr,h2,h3⟩
theorem OE:∀v∈Ins.ah.cells.toList,v.oneCell'=true:=by
 have h:Ins.ah.cells.toList.all (fun v=>v.oneCell')=true:=(by kernel_rfl);exact fun v hv=>List.all_eq_true.1 h v hv
theorem Si{F:Nat->Prop}{w:World}{gs:FT}(hg:∀x∈gs,aT F w x.2 x.1)(k:ByteArray):∃oc:List Value,oc.length=39/\(∀v∈oc,v.oneCell'=true)/\(gz gs k).getD Ins.ah = .agg oc.toArray:=by
 cases h:gz gs k with
 | none=>exact⟨Ins.ah.cells.toList,rfl,OE,rfl⟩
 | some v =>
  obtain⟨x,hx,_,rfl⟩:=zi h;have:=hg x hx;exact⟨x.2,this.length,Tab.dX this,rfl⟩
theorem Ii{w:World}{B g n cap:Nat}{ys:List ByteArray}{x:ByteArray}(h:w.ownsRow B 9 1 (.slice (some ⟨g,0,none⟩) (n+1) cap) (n+1) ((ys ++ [x]).map .string)):w.ownsRow B 9 1 (.slice (some ⟨g,0,none⟩) n cap) n (ys.map .string)/\n+1<=cap/\w.cell? ⟨g,n,none⟩=some (.string x):=by
 have hl:ys.length=n:=(by have:=h.1;simpa using this);have hc:=h.cellAt n (by omega);rcases h.2 with⟨h',_⟩|⟨g',cap',cur,h',hb,hg,hnc,hcm,hcs,htake⟩
 ·simp at h'
 ·simp only[Value.slice.injEq,Option.some.injEq,Addr.mk.injEq,and_true,true_and]at h';obtain⟨rfl,rfl⟩:=h';refine⟨⟨by simp[hl],.inr ⟨g,cap,cur,rfl,hb,hg,by omega,hcm,hcs,?_⟩⟩,hnc,by rw[hc];simp[←hl]⟩;have h1:cur.toList.take (n*1)=((cur.toList.take ((n+1)*1)).take (n*1)):=(by rw[List.take_take,Nat.min_eq_left (by omega)]);rw[h1,htake,List.map_append,List.take_append_of_le_length (by simp;omega),List.take_of_length_le (by simp;omega)]
structure RI(F:Nat->Prop)(w:World)(rs:List Rec)(roots:List ByteArray)(b n:Nat)(v:Value)(todo:List ByteArray)(gs:FT)(wr:World):Prop where
 below:Below w.heap.size w wr
 row:wr.ownsRow w.heap.size 9 1 v n (todo.map .string)
 map:Mp wr b gs.length (gz gs)
 hb:w.heap.size<=b
 recs:∀x∈gs,aT F wr x.2 x.1
 pi:PI rs roots todo gs
theorem FV{F:Nat->Prop}{w wr w5 W5:World}{rs:List Rec}{roots ini:List ByteArray}{n m g c gk:Nat}{v:Value}{r:Rec}{gs:FT}{DJ:List Value}
 (hF:∀b,F b->b<w.heap.size) (hi:RI F w rs roots w.heap.size n v (ini ++ [r.path]) gs wr) (hb:Below wr.heap.size wr w5) (h5:Below w5.heap.size w5 W5)
 (hpop:wr.ownsRow w.heap.size 9 1 (.slice (some ⟨g,0,none⟩) m c) m (ini.map .string)) (hre:aT F w5 DJ r) (Yz:r∈rs)
 (hm:ini.length=m/\m+1+wt (gz gs) rs<=gk/\gk+gs.length<=1099511627776/\tY rs roots r.path/\r.path.size<=maxLen) (hrg:W5.rangeAt w5.heap.size 0 DJ) (hno:(gz gs r.path).isSome=false) :
 ∃W6 ao n5 c5 W7 ao' n' c',(Instr.mapUpdate 126 (.map (some w.heap.size)) (.string r.path) (.agg DJ.toArray)).run Tryz.prog W5 = .ok () W6 /\
  W6.cell? ⟨w5.heap.size,5,none⟩=some (.slice ao n5 c5) /\
  (Builtin.append_ #[27,27] 27 #[.slice (some ⟨g,0,none⟩) m c,.slice ao n5 c5]).run Tryz.prog W6 = .ok (.slice ao' n' c') W7 /\
  Hid (RI F w rs roots w.heap.size n' (.slice ao' n' c') (ini++r.refs) (gs ++ [(r,DJ)]) W7/\n'=(ini++r.refs).length/\n'+wt (gz (gs ++ [(r,DJ)])) rs<gk)/\n'<=1099511627776:=by
 obtain⟨kv,rv,hcs,hh,hk,hrr⟩:=hre;have hl:DJ.length=39:=(by rw[hcs];simp[Rec.cells,Lib.byteCells,hh]);have h25:=hb.size;have h55:=h5.size;have b5:Below wr.heap.size wr W5:=hb.trans (h5.mono h25);have B5:Below w.heap.size w W5:=hi.below.trans (b5.mono hi.below.size);obtain⟨W6,h6,mp6,Hg,hs6⟩:=(hi.map.below b5).store (t:=126) Tryz.underlying126 (by unfold maxLen;omega) hm.2.2.2.2 (.agg DJ.toArray);have zbm:=Copy.own_below hpop b5;have Xw:W6.ownsRow w.heap.size 9 1 (.slice (some ⟨g,0,none⟩) m c) m (ini.map .string):=zbm.kept Hg (.inr (fun e=>(hi.map.below b5).ql zbm (by rw[e])));have B6:Below w.heap.size w W6:=B5.grown Hg B5.size (fun k e=>by cases e;exact Nat.le_refl _);have lt5:w.heap.size<w5.heap.size:=Nat.lt_of_lt_of_le hi.map.lt h25;have d5:W5.cell? ⟨w5.heap.size,5,none⟩=some rv:=by
  have:=hrg 5 rv (by rw[hcs];rfl)
  simpa using this
 have c5:W6.cell? ⟨w5.heap.size,5,none⟩=some rv:=by
  rw[World.cell?_of_block (w:=W5) (a:=⟨w5.heap.size,5,none⟩) (Hg.block _ (World.block_lt_of_cell? _ _ d5) (fun e=>by
   have e':w5.heap.size=w.heap.size:=Option.some.inj e;omega))]
  exact d5
 have agF:∀W',Below w.heap.size w W'->Ag F wr W':=fun W' h k hk hl=>by rw[h.block k (hF k hk),hi.below.block k (hF k hk)]
 have zbn:∀W',Below w.heap.size w W'->Ag F w5 W':=fun W' h k hk hl=>by rw[h.block k (hF k hk),(hi.below.trans (hb.mono hi.below.size)).block k (hF k hk)]
 obtain⟨v',W7,h7,zbo,Kv⟩:=DI Xw (hrr.ag (zbn W6 B6)) (by
  have h1:=FU (gz gs) r (.agg DJ.toArray) (by cases h:gz gs r.path with|none=>rfl|some v=>rw[h]at hno;cases hno) rs Yz;omega) B6.size 27
 have B7:Below w.heap.size w W7:=B6.grown Kv B6.size (fun k e=>(Xw.lt k e).1);have mp7:=mp6.kept Kv (fun e=>mp6.ql Xw e.symm);have hnone:gz gs r.path=none:=(by cases h:gz gs r.path with|none=>rfl|some v=>rw[h]at hno;cases hno);obtain⟨ao',c',hv'⟩:=Tab.aO zbo;subst hv';obtain⟨aor,zbp,nR,_⟩:=hrr;subst nR;have hwt:=FU (gz gs) r (.agg DJ.toArray) hnone rs Yz;have hlen:(ini++r.refs).length=m+r.refs.length:=(by rw[List.length_append,hm.1]);refine⟨W6,aor,r.refs.length,zbp,W7,ao',m+r.refs.length,c',h6,c5,h7,yH ⟨⟨B7,?_,?_,Nat.le_refl _,?_,hi.pi.take (zh hnone) Yz⟩,hlen.symm,?_⟩,by omega⟩
 ·rw[List.map_append];exact zbo
 ·rw[zk hnone,List.length_append];exact mp7
 ·intro x hx;rcases List.mem_append.1 hx with h1|h1
  ·exact(hi.recs x h1).ag (agF W7 B7)
  ·simp at h1;subst h1;exact aT.ag ⟨kv,_,hcs,hh,hk,⟨aor,zbp,rfl,by assumption⟩⟩ (zbn W7 B7)
 ·rw[zk hnone];omega
set_option maxHeartbeats 4000000 in
set_option maxRecDepth 20000 in
theorem Xx(M F S:Nat->Prop)(s:Nat)(rs:List Rec)(rv:Value)(roots:List ByteArray)(w:World)(h:Is M F w s rs)(hn:rs.length<=1073741824)(hr:Strs S w rv roots)(hwt:roots.length+wt (fun _=>none) rs<=1099511627776)(hps:∀p,tY rs roots p->p.size<=maxLen) :
 Calls Tryz.prog 88 #[.pointer (some ⟨s,0,none⟩),rv] w (JB F w rs roots):=by
 obtain⟨⟨t,b0,ha⟩,ho⟩:=h;have hC:=fun p w1 hb=>Tab.CY M F t rs p w1 (ha.below hb) (by omega)
 have hG:=fun p w1 hb=>Ug M F t rs p w1 (ha.below hb) (by omega)
 have HX:=yH b0;have HF:=yH ha.uC;have HP:=yH hps;have MW:=yH ha.rise;clear ha b0 ho hps;have hmk:=zbk w
 go_enter Tryz.func88,Tryz.ntmps88
 go_wp2_with fail;obtain⟨w1,hw1⟩:∃W,w.alloc (.map #[] 0)=W:=⟨_,rfl⟩;rw[hw1];have b1:Below w.heap.size w w1:=(by rw[←hw1];exact(Below.refl _ w).alloc (Nat.le_refl _) _);have m1:Mp w1 w.heap.size 0 (fun _=>none):=(by rw[←hw1];exact Mp.made w);clear hw1;refine(wY S rv roots w1 (hr.below b1) (by omega)).mono ?_;rintro e w2 ⟨v,rfl,hown,b2⟩;obtain⟨Fj,c0,rfl⟩:=Tab.aO hown;have HB:=yH hwt;have zdC:roots.length<=1099511627776:=(by omega);have HI0:=yH (show RI F w rs roots w.heap.size roots.length (.slice Fj roots.length c0) roots [] w2 from
  ⟨b1.trans (b2.mono b1.size),Ih hown b1.size,(OD▸m1).below b2,Nat.le_refl _,(fun x hx=>absurd hx (by simp)),PI.start rs roots⟩)
 clear hmk hown b1 m1 b2 hwt
 go_wp2_with fail
 go_loopg [7] (roots.length+wt (fun _=>none) rs) (fun k v wr=>∃n ao c,v = .slice ao n c/\n<=1099511627776/\Hid (∃todo gs,RI F w rs roots w.heap.size n v todo gs wr/\todo.length=n/\n+wt (gz gs) rs<=k/\k+gs.length<=1099511627776))
 case atStart=>exact⟨_,_,_,rfl,zdC,yH ⟨_,_,HI0.out,rfl,Nat.le_refl _,by simpa using HB.out⟩⟩
 case round =>
  obtain⟨n,ao,c,rfl,hn1,HI⟩:=hrel;obtain⟨todo,gs,hi,hl,hk,hk1⟩:=HI.out;by_cases h0:n=0
  ·subst h0;clear HI0 hk hk1;have HI1:=yH hi;have HL:=yH hl;clear hi hl HI
   go_wp2_with fail
   go_ret2;have hi:=HI1.out;obtain rfl:=List.eq_nil_of_length_eq_zero HL.out;exact⟨hi.below,.inr ⟨_,gs,rfl,Nat.le_refl _,hi.map,hi.pi.nodup,fun x hx=>⟨hi.pi.from' x hx,hi.recs x hx⟩,hi.pi.done (fun a ha b hb e=>Sp.lW MW.out ha hb e)⟩⟩
  ·obtain⟨m,rfl⟩:∃m,n=m+1:=⟨n-1,by omega⟩;obtain⟨g,c',hv⟩:=ownsRow_succ hi.row;cases hv
   have hne:todo≠[]:=fun e=>by rw[e]at hl;cases hl
   obtain⟨ini,p,rfl⟩:∃ini p,todo=ini ++ [p]:=⟨_,_,(List.dropLast_concat_getLast hne).symm⟩;have hli:ini.length=m:=(by simpa using hl);obtain⟨hpop,hcap,c1⟩:=Ii hi.row;have AU:=hi.pi.rch p (by simp);have hps:=HP.out p AU;obtain⟨oc,hol,hoc,hlk⟩:=Si hi.recs p;have hlook:=hi.map.look_ok (t:=126) Tryz.underlying126 (zbl wr) hps;rw[hlk]at hlook;obtain⟨B,hBd⟩:∃B,(gz gs p).isSome=B:=⟨_,rfl⟩;rw[hBd]at hlook;have HI1:=yH hi;have HB1:=yH hBd;have zbq:=yH hpop;have HM:=yH (show ini.length=m/\m+1+wt (gz gs) rs<=gk/\gk+gs.length<=1099511627776/\tY rs roots p/\p.size<=maxLen from⟨hli,hk,hk1,AU,hps⟩);have hm0:(0:Int)<=(m:Int):=Int.natCast_nonneg _;have hcap2:(m:Int)<=(c:Int):=(by omega);clear hi hl hk hk1 HI hne hli hpop AU hlk hBd hps HI0 hcap h0;cases B with
   | true =>
    go_wp2_with (refine wpList_store_mid (by rfl) 31 _ _ (by rfl) wr.heap.size 0 oc.toArray (by rfl) (by rfl) ?h4 ?h5 ?h6 ?_;rotate_right;refine Mem.named ?_;intro W hW)
    case h4=>exact(Bx.new wr Ins.ah.cells 31).there _ (by rw[show oc.toArray.size=39 by simpa using hol];rfl)
    case h5=>rw[List.size_toArray,hol];kernel_rfl
    case h6=>exact all_oneCell_toArray hoc
    have bW:=aX hW;have HI2:=yH (show RI F w rs roots w.heap.size m (.slice (some ⟨g,0,none⟩) m c) ini gs W from
     ⟨HI1.out.below.trans (bW.mono HI1.out.below.size),Copy.own_below zbq.out bW,HI1.out.map.below bW,Nat.le_refl _,fun x hx=>(HI1.out.recs x hx).below bW,HI1.out.pi.skip (nZ.1 HB1.out)⟩)
    go_roundg (m+wt (gz gs) rs)
    case measure=>have:=HM.out;omega
    case rel=>exact⟨m,_,c,rfl,by omega,yH ⟨ini,gs,HI2.out,HM.out.1,Nat.le_refl _,by have:=HM.out;omega⟩⟩
   | false =>
    go_wp2_with (refine wpList_store_mid (by rfl) 31 _ _ (by rfl) wr.heap.size 0 oc.toArray (by rfl) (by rfl) ?k4 ?k5 ?k6 ?_;rotate_right;refine Mem.named ?_;intro W hW;have bW:=aX hW;have cs0:=(HX.out.below (HI1.out.below.trans (bW.mono HI1.out.below.size))).cell 0)
    case k4=>exact(Bx.new wr Ins.ah.cells 31).there _ (by rw[show oc.toArray.size=39 by simpa using hol];rfl)
    case k5=>rw[List.size_toArray,hol];kernel_rfl
    case k6=>exact all_oneCell_toArray hoc
    refine(hG p W (HI1.out.below.trans (bW.mono HI1.out.below.size))).mono ?_;rintro e w5 ⟨DJ,JC,zbr,rfl,b5,hrec⟩;clear cs0;have BW:=yH (show Below wr.heap.size wr w5 from bW.trans (b5.mono bW.size));have B5:=yH (show Below w.heap.size w w5 from HI1.out.below.trans (BW.out.mono HI1.out.below.size));cases hhas:aJ.has rs p with
    | false =>
     have HH:=yH hhas;clear hrec hhas b5 bW
     go_wp2_with (refine wpList_store_mid (by rfl) 31 _ _ (by rfl) w5.heap.size 0 DJ.toArray (by rfl) (by rfl) ?n4 ?n5 ?n6 ?_;rotate_right;refine Mem.named ?_;intro W5 Jy;have bW5:=aX Jy)
     case n4=>exact(Bx.new w5 Ins.ah.cells 31).there _ (by rw[show DJ.toArray.size=39 by simpa using JC];rfl)
     case n5=>rw[List.size_toArray,JC];kernel_rfl
     case n6=>exact all_oneCell_toArray zbr
     go_ret2;exact⟨B5.out.trans (bW5.mono B5.out.size),.inl ⟨p,HM.out.2.2.2.1,HH.out,rfl⟩⟩
    | true =>
     obtain⟨r,hgr⟩:∃r,Sp.get Rec.path rs p=some r:=by
      unfold aJ.has at hhas;cases h:Sp.get Rec.path rs p with
      | none=>rw[h]at hhas;cases hhas
      | some r=>exact⟨r,rfl⟩
     obtain⟨zbs,hrp⟩:=Sp.get_some hgr;subst hrp;have hre:=hrec r hgr;clear hrec hgr hhas b5 bW;have kF:=yH hre;have Jb:=yH zbs;clear hre zbs
     go_wp2_with (first
      | (refine wpList_store_mid (by rfl) 31 _ _ (by rfl) w5.heap.size 0 DJ.toArray (by rfl) (by rfl) ?m4 ?m5 ?m6 ?_;rotate_right;refine Mem.named ?_;intro W5 Jy;have hrg:=aZ Jy JC.symm;obtain⟨W6,ve,n3,c3,W7,ao4,n4,c4,h6,c5,h7,sQ,hn4⟩:=FV HF.out HI1.out BW.out (aX Jy) zbq.out kF.out Jb.out HM.out hrg HB1.out)
      | (refine wpList_load_mid rfl 31 _ (by rfl) w5.heap.size 0 (by rfl) DJ _ hrg Tryz.underlying31 rfl (by rw[JC];kernel_rfl) ?_)
      | (at_builtin;refine wpList_append_run _ (by rfl) _ _ 27 27 (by rfl) _ _ (by rfl) (by rfl) h7 ?_))
     case m4=>exact(Bx.new w5 Ins.ah.cells 31).there _ (by rw[show DJ.toArray.size=39 by simpa using JC];rfl)
     case m5=>rw[List.size_toArray,JC];kernel_rfl
     case m6=>exact all_oneCell_toArray zbr
     have OG:=sQ.out
     go_roundg (n4+wt (gz (gs ++ [(r,DJ)])) rs)
     case measure=>exact OG.2.2
     case rel=>exact⟨n4,ao4,c4,rfl,hn4,yH ⟨ini++r.refs,gs ++ [(r,DJ)],OG.1,OG.2.1.symm,Nat.le_refl _,by have:=HM.out;have:=OG.2.2;rw[List.length_append];simp;omega⟩⟩
end St
end Go.Proofs.YtmmmghpimdfleaaGreatDoor
