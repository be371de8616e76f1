/-
  Small general lemmas on rows of bytes; of no function of the program.
  Frames and rows of cells in memory; of no function of the program.
  The ak Texts tells whether two lists hold the same texts.
  Trees, texts and records as data, and how they lie in memory.
  Rows of cells that a table keeps: what a row holds behind an insertion; of no function of the program.
  Entries as a row of cells; of no function of the program.
  Rows of things rising by a key; of no function of the program.
  A table's rows in memory.
  strings.IndexByte: the first place of a byte, or -1.
-/
import Derived.Test.YtmmmghpimdfleaaGreatDoorTk
import Derived.Lib.Strings
import Derived.Lib.Builder
import Derived.Lib.AppendStr
import Derived.Lib.UnsafeStr
import Derived.Laws.BytesArg
import Derived.Laws.OwnMore
import Derived.OwnWalk
import Derived.Below
import Derived.Deep.Draws
import Derived.Lib.Hide
import Derived.OneCell
import Derived.Deep.MidRow
import Derived.Calls
import Derived.Test.YtmmmghpimdfleaaGreatDoorProg
import Derived.WalkKit
import Derived.WalkLawsBesides
import Derived.WalkSpells
import Derived.Deep.QuietTactic
import Derived.BigQuiet
import Derived.KernelRfl
import Derived.Laws.IdiomCopy
import Derived.Laws.AppendOwn
import Derived.Laws.Externs
namespace Go.Proofs.YtmmmghpimdfleaaGreatDoor
namespace Lb
open Go.RowKit
theorem di(l:List UInt8)(j:Nat):(Lib.byteCells l)[j]? = (l[j]?).map fun b=>Value.int .u8 (b.toNat:Int):=by
 simp[Lib.byteCells]
theorem strOfNums_bytes(l:List UInt8):strOfNums (l.map fun b=>(b.toNat:Int))=⟨l.toArray⟩:=by
 unfold strOfNums;rw[List.map_map];have:l.map ((fun n:Int=>UInt8.ofNat n.toNat) ∘ fun b:UInt8=>(b.toNat:Int))=l:=(by rw[List.map_congr_left (g:=id) (fun b _=>by simp)];simp);rw[this]
/-- 'string(b)' of a row of bytes that the call owns. -/
theorem kY{P:Program}{src dst e:TypeId}(hs:P.underlying src=some (.slice e))(he:P.underlying e=some (.int .u8))(hd:P.underlying dst=some .string)
 {w:World} {B:Nat} {v:Value} {l:List UInt8} {n:Nat} (hn:n=l.length) (h:w.ownsRow B e 1 v n (Lib.byteCells l)):(convert src dst v).run P w = .ok (.string ⟨l.toArray⟩) w:=by
 subst hn;rcases h.2 with⟨rfl,h0⟩|⟨g,cap,cur,rfl,hb,hg,hn,hc,hsz,htk⟩
 ·obtain rfl:l = []:=List.eq_nil_of_length_eq_zero h0;exact run_convert_bytes_nil w src e hs he 0 0 dst hd
 ·have:=run_convert_bytes_arg (P:=P) w src e hs he g 0 l.length cap (l.map fun b=>(b.toNat:Int)) (by simp) (fun i hi=>by
   have h1:=World.ownsRow.cells h (g:=g) rfl i (.int .u8 (l[i].toNat:Int)) (by rw[di,List.getElem?_eq_getElem hi];rfl);have h2:(⟨g,0,none⟩:Addr).add i=⟨g,0+i,none⟩:=(by unfold Addr.add;split<;>simp_all);rw[h2]at h1;rw[h1];simp[List.getD,hi]) dst hd
  rw[strOfNums_bytes]at this;exact this
theorem str_eq{a b:ByteArray}(h:a.data.toList=b.data.toList):a=b:=by
 cases a;cases b;exact congrArg _ (Array.toList_inj.1 h)
/-- What made new memory alone leaves a row and a builder as they were. -/
theorem grown_below{w w':World}(h:Below w.heap.size w w'):w.grownBy w' none:=⟨h.os,h.tape,h.output,h.size,fun k hk _=>h.block k hk⟩
theorem IA{w w':World}{B:Nat}{e:TypeId}{size:Nat}{v:Value}{n:Nat}{xs:List Value}(h:w.ownsRow B e size v n xs)(hb:Below w.heap.size w w'):w'.ownsRow B e size v n xs :=
 h.kept (grown_below hb) (by cases hv:v.ownBlock<;>simp)
theorem mV{T e:TypeId}{B b:Nat}{p:Value}{bs:List Value}{w w':World}(h:Lib.BuilderAt T e B b p bs w)(hb:Below w.heap.size w w'):Lib.BuilderAt T e B b p bs w':=by
 have hlt:=h.lt;obtain⟨hB,v,hbk,hown,hne⟩:=h;exact⟨hB,v,(hb.block b hlt).trans hbk,IA hown hb,hne⟩
theorem aK{T e:TypeId}{B b:Nat}{bs:List Value}{w w':World}(h:Lib.IsBuilder T e B b bs w)(hb:Below w.heap.size w w'):Lib.IsBuilder T e B b bs w' :=
 h.elim (fun x=>.inl (mV x hb)) (fun x=>.inr (mV x hb))
/-- The same memory; only draws have been made. -/
structure Sm(w w':World):Prop where
 heap:w'.heap=w.heap
 os:w'.os=w.os
 tape:w'.tape=w.tape
 output:w'.output=w.output
theorem Sm.refl(w:World):Sm w w:=⟨rfl,rfl,rfl,rfl⟩
theorem Sm.trans{a b c:World}(h:Sm a b)(k:Sm b c):Sm a c:=⟨k.heap.trans h.heap,k.os.trans h.os,k.tape.trans h.tape,k.output.trans h.output⟩
theorem Sm.drewN(w:World)(n:Nat):Sm w (w.drewN n):=⟨rfl,rfl,rfl,rfl⟩
theorem Sm.below{B:Nat}{a w w':World}(h:Sm w w')(hb:Below B a w):Below B a w':=⟨h.os.trans hb.os,h.tape.trans hb.tape,h.output.trans hb.output,by rw[h.heap];exact hb.size,fun k hk=>by rw[h.heap];exact hb.block k hk⟩
theorem Sm.cell{w w':World}(h:Sm w w')(a:Addr):w'.cell? a=w.cell? a:=by unfold World.cell?;rw[h.heap]
theorem dM(l:List UInt8)(j:Nat)(b:UInt8):(Lib.byteCells l).set j (.int .u8 (b.toNat:Int))=Lib.byteCells (l.set j b):=by
 simp[Lib.byteCells,List.map_set]
theorem dm(s:ByteArray)(k:Nat)(h:k<s.size):s.data.toList[k]? = some s[k]:=by
 rw[List.getElem?_eq_getElem (by simpa using h)];rfl
theorem take_snoc(s:ByteArray)(k:Nat)(h:k<s.size):s.data.toList.take (k+1)=s.data.toList.take k ++ [s[k]]:=by
 rw[List.take_succ_eq_append_getElem (by simpa using h)];rfl
end Lb
set_option linter.unusedVariables false
namespace Mem
open Go.RowKit
/-- Only draws have been made. -/
def Dn(w w':World):Prop:=∃n,w'=w.drewN n
theorem Dn.refl(w:World):Dn w w:=⟨0,rfl⟩
theorem Dn.drewN(w:World)(n:Nat):Dn w (w.drewN n):=⟨n,rfl⟩
theorem Dn.trans{a b c:World}(h:Dn a b)(k:Dn b c):Dn a c:=by
 obtain⟨n,rfl⟩:=h;obtain⟨m,rfl⟩:=k;exact⟨n+m,by rw[World.drewN_drewN]⟩
theorem Dn.sm{a b:World}(h:Dn a b):Lb.Sm a b:=by
 obtain⟨n,rfl⟩:=h;exact Lb.Sm.drewN _ _
theorem Dn.heap{a b:World}(h:Dn a b):b.heap=a.heap:=h.sm.heap
theorem Dn.cell{a b:World}(h:Dn a b)(p:Addr):b.cell? p=a.cell? p:=h.sm.cell p
theorem Dn.below{B:Nat}{a b:World}(h:Dn a b):Below B a b:=h.sm.below (Below.refl _ _)
/-- Of the old blocks only those that M names may have turned. -/
structure Kp(M:Nat->Prop)(w w':World):Prop where
 os:w'.os=w.os
 tape:w'.tape=w.tape
 output:w'.output=w.output
 size:w.heap.size<=w'.heap.size
 block:∀k,k<w.heap.size->¬M k->w'.heap[k]? = w.heap[k]?
theorem Kp.refl(M:Nat->Prop)(w:World):Kp M w w:=⟨rfl,rfl,rfl,Nat.le_refl _,fun _ _ _=>rfl⟩
theorem Kp.trans{M M' M'':Nat->Prop}{a b c:World}(h:Kp M a b)(k:Kp M' b c)(h1:∀i,i<a.heap.size->M i->M'' i)(h2:∀i,i<a.heap.size->M' i->M'' i):Kp M'' a c :=
 ⟨k.os.trans h.os,k.tape.trans h.tape,k.output.trans h.output,Nat.le_trans h.size k.size,fun i hi hn =>
  (k.block i (Nat.lt_of_lt_of_le hi h.size) (fun e=>hn (h2 i hi e))).trans (h.block i hi (fun e=>hn (h1 i hi e)))⟩
theorem Kp.then{M:Nat->Prop}{a b c:World}(h:Kp M a b)(k:Kp M b c):Kp M a c:=h.trans k (fun _ _ x=>x) (fun _ _ x=>x)
theorem Kp.mono{M M':Nat->Prop}{a b:World}(h:Kp M a b)(hm:∀i,i<a.heap.size->M i->M' i):Kp M' a b:=⟨h.os,h.tape,h.output,h.size,fun i hi hn=>h.block i hi (fun e=>hn (hm i hi e))⟩
theorem Kp.of_below{M:Nat->Prop}{a b:World}(h:Below a.heap.size a b):Kp M a b:=⟨h.os,h.tape,h.output,h.size,fun i hi _=>h.block i hi⟩
theorem Kp.below{M:Nat->Prop}{a b:World}{B:Nat}(h:Kp M a b)(hB:B<=a.heap.size)(hM:∀i,i<B->¬M i):Below B a b:=⟨h.os,h.tape,h.output,h.size,fun i hi=>h.block i (Nat.lt_of_lt_of_le hi hB) (hM i hi)⟩
theorem Kp.fA{M:Nat->Prop}{a b:World}{row:Option Nat}(h:a.grownBy b row)(hM:∀r,row=some r->r<a.heap.size->M r):Kp M a b :=
 ⟨h.os,h.tape,h.output,h.size,fun i hi hn=>h.block i hi (fun e=>hn (hM i e.symm hi))⟩
theorem Kp.kE{M:Nat->Prop}{a b:World}(h:Dn a b):Kp M a b:=Kp.of_below h.below
theorem Kp.alloc{M:Nat->Prop}{a b:World}(h:Kp M a b)(o:Obj):Kp M a (b.alloc o) :=
 h.then (Kp.of_below ((Below.refl _ _).alloc (Nat.le_refl _) o))
theorem Kp.setCell{M:Nat->Prop}{a b:World}(h:Kp M a b)(p:Addr)(u:Value)(hp:p.block<a.heap.size->M p.block):Kp M a (b.setCell p u) :=
 ⟨h.os,h.tape,h.output,by simpa using h.size,fun i hi hn=>(Below.heap_setCell b p u i (fun e=>hn (by rw[e];exact hp (e▸hi)))).trans (h.block i hi hn)⟩
/-- The old blocks that S names are as they were. -/
def Ag(S:Nat->Prop)(w w':World):Prop:=∀k,S k->k<w.heap.size->w'.heap[k]? = w.heap[k]?
theorem Ag.of_below{S:Nat->Prop}{a b:World}(h:Below a.heap.size a b):Ag S a b:=fun k _ hk=>h.block k hk
theorem Ag.bg{S M:Nat->Prop}{a b:World}(h:Kp M a b)(hd:∀k,k<a.heap.size->S k->¬M k):Ag S a b:=fun k hs hk=>h.block k hk (hd k hk hs)
theorem Ag.kE{S:Nat->Prop}{a b:World}(h:Dn a b):Ag S a b:=fun k _ _=>by rw[h.heap]
theorem Ag.mono{S S':Nat->Prop}{a b:World}(h:Ag S a b)(hs:∀k,S' k->S k):Ag S' a b:=fun k hk hl=>h k (hs k hk) hl
theorem Ag.cell{S:Nat->Prop}{w w':World}(h:Ag S w w'){p:Addr}{v:Value}(hs:S p.block)(hc:w.cell? p=some v):w'.cell? p=some v:=by
 rw[World.cell?_of_block (w:=w) (h p.block hs (World.block_lt_of_cell? w p hc))];exact hc
/-- A box of one block: known whole. -/
def Bx(w:World)(b:Nat)(cs:Array Value)(t:TypeId):Prop:=w.heap[b]? = some (.cells cs t (0,0))
theorem Bx.lt{w:World}{b:Nat}{cs:Array Value}{t:TypeId}(h:Bx w b cs t):b<w.heap.size:=by
 rcases Nat.lt_or_ge b w.heap.size with h'|h'
 ·exact h'
 ·unfold Bx at h;simp[Array.getElem?_eq_none h']at h
theorem Bx.new(w:World)(cs:Array Value)(t:TypeId):Bx (w.alloc (.cells cs t)) w.heap.size cs t:=by
 unfold Bx World.alloc;simp
theorem Bx.kept{w w':World}{b:Nat}{cs:Array Value}{t:TypeId}(h:Bx w b cs t)(hk:w'.heap[b]? = w.heap[b]?):Bx w' b cs t:=by unfold Bx at *;rw[hk];exact h
theorem Bx.below{w w':World}{b:Nat}{cs:Array Value}{t:TypeId}(h:Bx w b cs t)(hb:Below w.heap.size w w'):Bx w' b cs t:=h.kept (hb.block b h.lt)
theorem Bx.pG{w w':World}{b B:Nat}{cs:Array Value}{t:TypeId}(h:Bx w b cs t)(hb:Below B w w')(hB:b<B):Bx w' b cs t:=h.kept (hb.block b hB)
theorem Bx.kp{M:Nat->Prop}{w w':World}{b:Nat}{cs:Array Value}{t:TypeId}(h:Bx w b cs t)(hb:Kp M w w')(hn:¬M b):Bx w' b cs t:=h.kept (hb.block b h.lt hn)
theorem Bx.alloc{w:World}{b:Nat}{cs:Array Value}{t:TypeId}(h:Bx w b cs t)(o:Obj):Bx (w.alloc o) b cs t:=h.kept (Below.heap_alloc w o b h.lt)
theorem Bx.dn{w w':World}{b:Nat}{cs:Array Value}{t:TypeId}(h:Bx w b cs t)(hd:Dn w w'):Bx w' b cs t:=h.kept (by rw[hd.heap])
theorem Bx.cell{w:World}{b:Nat}{cs:Array Value}{t:TypeId}(h:Bx w b cs t)(j:Nat):w.cell? ⟨b,j,none⟩=cs[j]?:=by
 unfold Bx at h;unfold World.cell?;rw[h];rfl
theorem Bx.frozen{w:World}{b:Nat}{cs:Array Value}{t:TypeId}(h:Bx w b cs t)(j:Nat):w.frozen? ⟨b,j,none⟩=false:=by
 unfold Bx at h;unfold World.frozen?;rw[h];simp
theorem Bx.shape{w:World}{b:Nat}{cs:Array Value}{t:TypeId}(h:Bx w b cs t):w.shape? b=some (t,cs.size):=by
 unfold Bx at h;unfold World.shape?;rw[h]
theorem Bx.set{w:World}{b:Nat}{cs:Array Value}{t:TypeId}(h:Bx w b cs t)(j:Nat)(u:Value):Bx (w.setCell ⟨b,j,none⟩ u) b (cs.setIfInBounds j u) t:=by
 unfold Bx at *;simp[World.setCell,Array.getElem?_modify,h]
theorem Bx.aH{w:World}{b:Nat}{cs:Array Value}{t:TypeId}(h:Bx w b cs t){p:Addr}(u:Value)(hne:b≠p.block):Bx (w.setCell p u) b cs t:=h.kept (Below.heap_setCell w p u b hne)
/-- A result that lies in a variable. -/
theorem ai{P:Program}{fn:Func}{t:Tmp}{ty:TypeId}(h:fn.results=#[.cell t ty]){tmps:Array Value}{b:Nat}(hp:tmps.getD t undef = .pointer (some ⟨b,0,none⟩)){v:Value}{w:World}
 (hl:(loadVar ty ⟨b,0,none⟩).run P w = .ok v w):(results fn tmps).run P w = .ok v w:=by
 have ha:(asAddr (tmps.getD t undef)).run P w = .ok ⟨b,0,none⟩ w:=(by rw[hp];rfl);rw[Array.getD_eq_getD_getElem?]at ha;unfold results;rw[h];simp[ha,hl]
/-- A first result that lies in a variable, two others in slots. -/
theorem ik{P:Program}{fn:Func}{t u v:Tmp}{ty:TypeId}(h:fn.results=#[.cell t ty,.tmp u,.tmp v]){tmps:Array Value}{b:Nat}(hp:tmps.getD t undef = .pointer (some ⟨b,0,none⟩)){x:Value}{w:World}
 (hl:(loadVar ty ⟨b,0,none⟩).run P w = .ok x w) {y z:Value} (hy:tmps.getD u undef=y) (hz:tmps.getD v undef=z):(results fn tmps).run P w = .ok (.tuple #[x,y,z]) w:=by
 have ha:(asAddr (tmps.getD t undef)).run P w = .ok ⟨b,0,none⟩ w:=(by rw[hp];rfl);subst hy;subst hz;rw[Array.getD_eq_getD_getElem?]at ha;unfold results;rw[h];simp[ha,hl]
/-- A first result that lies in a variable, one other in a slot. -/
theorem bT{P:Program}{fn:Func}{t u:Tmp}{ty:TypeId}(h:fn.results=#[.cell t ty,.tmp u]){tmps:Array Value}{b:Nat}(hp:tmps.getD t undef = .pointer (some ⟨b,0,none⟩)){x:Value}{w:World}
 (hl:(loadVar ty ⟨b,0,none⟩).run P w = .ok x w) {y:Value} (hy:tmps.getD u undef=y):(results fn tmps).run P w = .ok (.tuple #[x,y]) w:=by
 have ha:(asAddr (tmps.getD t undef)).run P w = .ok ⟨b,0,none⟩ w:=(by rw[hp];rfl);subst hy;rw[Array.getD_eq_getD_getElem?]at ha;unfold results;rw[h];simp[ha,hl]
/-- The last argument (a world) under a name. -/
theorem named{α:Type}{x:α}{P:α->Prop}(h:∀y,x=y->P y):P x:=h _ rfl
theorem ae{P:Program}{f:FuncId}{args:Array Value}{w:World}{R:Ending->World->Prop}(h:∀W,w=W->Calls P f args W R):Calls P f args w R:=h _ rfl
theorem iV{w W:World}{z:Array Value}{t:TypeId}(h:w.alloc (.cells z t)=W):Below w.heap.size w W/\Bx W w.heap.size z t/\W.heap.size=w.heap.size+1:=by
 subst h;exact⟨(Below.refl _ w).alloc (Nat.le_refl _) _,Bx.new w z t,World.size_alloc _ _⟩
theorem af{w W:World}{z:Array Value}{t:TypeId}(h:w.alloc (.cells z t)=W):Below w.heap.size w W/\Bx W w.heap.size z t:=⟨(iV h).1,(iV h).2.1⟩
theorem aQ{w W:World}{z z2:Array Value}{t t2:TypeId}(h:(w.alloc (.cells z t)).alloc (.cells z2 t2)=W):Below w.heap.size w W/\Bx W w.heap.size z t/\Bx W (w.heap.size+1) z2 t2:=by
 subst h;have:=Bx.new (w.alloc (.cells z t)) z2 t2;rw[World.size_alloc]at this;exact⟨((Below.refl _ w).alloc (Nat.le_refl _) _).alloc (by simp) _,(Bx.new w z t).alloc _,this⟩
theorem Bx.there{w:World}{b:Nat}{cs:Array Value}{t:TypeId}(h:Bx w b cs t)(n:Nat)(hn:cs.size=n):w.there b 0 n:=by
 subst hn;exact fun j hj=>⟨by rw[h.cell,Nat.zero_add,Array.getElem?_eq_getElem hj];rfl,h.frozen _⟩
theorem Bx.range{w:World}{b:Nat}{cs:Array Value}{t:TypeId}(h:Bx w b cs t):w.rangeAt b 0 cs.toList:=fun j v hj=>by
 rw[Nat.zero_add,h.cell];simpa using hj
theorem bsize(a:Array UInt8):(⟨a⟩:ByteArray).size=a.size:=rfl
theorem bQ{w w2:World}{p:Nat}{v:Value}{T:TypeId}(hk:Kp (· = p) w w2)(hx:Bx w2 p #[v] T)(u:Value):Bx (w2.setCell ⟨p,0,none⟩ u) p #[u] T/\Kp (· = p) w (w2.setCell ⟨p,0,none⟩ u) :=
 ⟨by simpa using hx.set 0 u,hk.setCell _ _ (fun _=>rfl)⟩
theorem gK{k:IntKind}{a b:Int}(h:a=b):Ending.returned (.int k a) = .returned (.int k b):=by rw[h]
theorem PZ{a b:Value}(h:a=b):Ending.returned a = .returned b:=by rw[h]
end Mem

namespace Texts
open Go.RowKit
/-- A list of texts in memory. -/
def Reads(w:World)(v:Value)(l:List ByteArray):Prop :=
 (∃ao cap,l = []/\v = .slice ao 0 cap)∨∃b off cap,v = .slice (some ⟨b,off,none⟩) l.length cap/\l.length<=9223372036854775807/\∀j (h:j<l.length),w.cell? ⟨b,off+j,none⟩=some (.string l[j])
theorem Reads.below{w w':World}{v:Value}{l:List ByteArray}(h:Reads w v l)(hb:Below w.heap.size w w'):Reads w' v l:=by
 rcases h with h|⟨b,off,cap,hv,hl,hc⟩
 ·exact .inl h
 ·exact .inr ⟨b,off,cap,hv,hl,fun j hj=>by rw[hb.cell (p:=⟨b,off+j,none⟩) (World.block_lt_of_cell? w _ (hc j hj))];exact hc j hj⟩
theorem Reads.bU{w:World}{B:Nat}{e:TypeId}{v:Value}{l:List ByteArray}(h:w.ownsRow B e 1 v l.length (l.map .string)):Reads w v l:=by
 rcases h.2 with⟨hv,h0⟩|⟨g,cap,cur,hv,hb,hg,hn,hc,hsz,htk⟩
 ·exact .inl ⟨none,0,List.eq_nil_of_length_eq_zero h0,hv⟩
 ·refine .inr ⟨g,0,cap,hv,by unfold maxLen at hc;omega,fun j hj=>?_⟩;have h1:=World.ownsRow.cells h (g:=g) (by rw[hv];rfl) j (.string l[j]) (by rw[List.getElem?_map,List.getElem?_eq_getElem hj];rfl);have h2:(⟨g,0,none⟩:Addr).add j=⟨g,0+j,none⟩:=(by unfold Addr.add;split<;>simp_all);rw[h2]at h1;exact h1
theorem Reads.shape{w:World}{v:Value}{l:List ByteArray}(h:Reads w v l):∃ao cap,v = .slice ao l.length cap:=by
 rcases h with⟨ao,cap,rfl,rfl⟩|⟨b,off,cap,hv,_⟩
 ·exact⟨_,_,rfl⟩
 ·exact⟨_,_,hv⟩
theorem Reads.le{w:World}{v:Value}{l:List ByteArray}(h:Reads w v l):l.length<=9223372036854775807:=by
 rcases h with⟨ao,cap,rfl,rfl⟩|⟨b,off,cap,hv,hl,_⟩
 ·simp
 ·exact hl
set_option maxHeartbeats 1000000 in
theorem texts(w:World)(v1 v2:Value)(l1 l2:List ByteArray)(h1:Reads w v1 l1)(h2:Reads w v2 l2) :
 Calls Tryz.prog 25 #[v1,v2] w fun e w'=>e = .returned (.bool (decide (l1=l2)))/\Lb.Sm w w':=by
 by_cases hlen:l1.length=l2.length
 ·rcases h1 with⟨ao,cap,rfl,rfl⟩|⟨b,off,cap,rfl,hm,hc⟩
  ·obtain rfl:l2 = []:=List.eq_nil_of_length_eq_zero (by simpa using hlen.symm);obtain⟨dL,cap2,rfl⟩:=h2.shape;clear h2 hlen;simp only[List.length_nil]
   go_enter Tryz.func25,Tryz.ntmps25
   go_wp2
   go_loopw [5] (fun i wr=>i = .int .i64 0/\Hid (w=wr)) (fun _ _=>0)
   case atStart=>exact⟨rfl,yH rfl⟩
   case round =>
    obtain⟨rfl,hw⟩:=hrel;obtain rfl:=hw.out
    go_wp2
    go_ret;exact⟨rfl,Lb.Sm.refl _⟩
  rcases h2 with⟨ao,cap2,rfl,rfl⟩|⟨b2,P5,cap2,rfl,hm2,hc2⟩
  ·obtain rfl:l1 = []:=List.eq_nil_of_length_eq_zero (by simpa using hlen);clear hc hlen hm;simp only[List.length_nil]
   go_enter Tryz.func25,Tryz.ntmps25
   go_wp2
   go_loopw [5] (fun i wr=>i = .int .i64 0/\Hid (w=wr)) (fun _ _=>0)
   case atStart=>exact⟨rfl,yH rfl⟩
   case round =>
    obtain⟨rfl,hw⟩:=hrel;obtain rfl:=hw.out
    go_wp2
    go_ret;exact⟨rfl,Lb.Sm.refl _⟩
  obtain⟨n,hn⟩:∃n,l1.length=n:=⟨_,rfl⟩;have hn2:l2.length=n:=(by omega);rw[hn,hn2];have Hn:=yH hn;have P6:=yH hn2;have Hc:=yH hc;have Hc2:=yH hc2;rw[hn]at hm;clear hlen hn hn2 hc hc2 hm2
  go_enter Tryz.func25,Tryz.ntmps25
  go_wp2
  go_loopw [5] (fun i wr=>∃k:Nat,k<=n/\i = .int .i64 k/\Hid (l1.take k=l2.take k)/\Lb.Sm w wr) (fun i _=>n-(intOf i).toNat)
  case atStart=>exact⟨0,by omega,rfl,yH rfl,Lb.Sm.refl _⟩
  case round =>
   obtain⟨k,hk,rfl,htk,hsm⟩:=hrel;by_cases hlt:k<n
   ·have e0:(0:Int)<=(k:Int):=Int.natCast_nonneg _;have e1:(k:Int)<(n:Int):=(by omega);have k1:k<l1.length:=(by rw[Hn.out];exact hlt);have k2:k<l2.length:=(by rw[P6.out];exact hlt);have g1:wr.cell? ⟨b,off+k,none⟩=some (.string l1[k]):=(by rw[hsm.cell];exact Hc.out k k1);have g2:wr.cell? ⟨b2,P5+k,none⟩=some (.string l2[k]):=(by rw[hsm.cell];exact Hc2.out k k2);by_cases he:l1[k]=l2[k]
    ·have tt:(l1[k].toList==l2[k].toList)=true:=(by rw[he];simp);have hnew:l1.take (k+1)=l2.take (k+1):=(by rw[List.take_succ_eq_append_getElem k1,List.take_succ_eq_append_getElem k2,htk.out,he]);have UU:=yH hnew;clear he hnew
     go_wp2
     go_quiet (fail)
     go_wp2
     go_roundw
     case rel=>exact⟨k+1,by omega,by go_num,UU,hsm.trans (Lb.Sm.drewN _ _)⟩
     case measure=>simp[intOf];omega
    ·have tt:(l1[k].toList==l2[k].toList)=false:=by
      rw[Lib.toList_data,Lib.toList_data]
      simpa using fun e=>he (Lb.str_eq e)
     have hne:decide (l1=l2)=false:=(by rw[decide_eq_false_iff_not];rintro rfl;exact he rfl);have UW:=yH hne;clear he hne
     go_wp2
     go_quiet (fail)
     go_wp2
     go_ret;exact⟨by rw[UW.out];rfl,hsm.trans (Lb.Sm.drewN _ _)⟩
   ·obtain rfl:k=n:=(by omega);have hall:decide (l1=l2)=true:=(by rw[decide_eq_true_iff];have h1:l1.take k=l1:=List.take_of_length_le (by rw[Hn.out];exact Nat.le_refl _);have h2:l2.take k=l2:=List.take_of_length_le (by rw[P6.out];exact Nat.le_refl _);rw[←h1,←h2];exact htk.out);have UX:=yH hall;clear hall
    go_wp2
    go_ret;exact⟨by rw[UX.out];rfl,hsm⟩
 ·have hne:decide (l1=l2)=false:=(by rw[decide_eq_false_iff_not];rintro rfl;exact hlen rfl);have UW:=yH hne;have m1:=h1.le;have m2:=h2.le;obtain⟨ao1,c1,rfl⟩:=h1.shape;obtain⟨dL,c2,rfl⟩:=h2.shape;have tt:((l1.length:Int) != (l2.length:Int))=true:=(by rw[bne_iff_ne];omega);clear h1 h2 hne hlen
  go_enter Tryz.func25,Tryz.ntmps25
  go_wp2
  go_ret;exact⟨by rw[UW.out];rfl,Lb.Sm.refl _⟩
end Texts

namespace Tr
open Go.RowKit Mem
inductive Kids where
 | nil
 | cons (name:ByteArray) (kind:Int) (exec:Bool) (text:ByteArray) (sub rest:Kids)
 deriving DecidableEq
structure Tree where
 kind:Int
 exec:Bool
 text:ByteArray
 kids:Kids
 deriving DecidableEq
def Kids.len:Kids->Nat
 | .nil=>0
 | .cons _ _ _ _ _ r=>r.len+1
def Kids.bulk:Kids->Nat
 | .nil=>0
 | .cons n _ _ t s r=>n.size+t.size+8+s.bulk+r.bulk
def Tree.bulk(t:Tree):Nat:=t.text.size+t.kids.bulk
def Kids.drop:Kids->Nat->Kids
 | ks,0=>ks
 | .nil,_+1=>.nil
 | .cons _ _ _ _ _ r,k+1=>r.drop k
def Kids.append:Kids->Kids->Kids
 | .nil,l=>l
 | .cons n k e t s r,l=>.cons n k e t s (r.append l)
theorem Kids.jD(ks:Kids):ks.len*8<=ks.bulk:=by
 induction ks with
 | nil=>simp[Kids.len,Kids.bulk]
 | cons n k e t s r JZ ihr=>simp only[Kids.len,Kids.bulk];omega
theorem Kids.drop_zero(ks:Kids):ks.drop 0=ks:=by cases ks<;>rfl
theorem Kids.gV(ks:Kids):∀k,ks.len<=k->ks.drop k = .nil:=by
 induction ks with
 | nil=>intro k _;cases k<;>rfl
 | cons n k e t s r _ ihr =>
  intro j hj;cases j with
  | zero=>simp[Kids.len]at hj
  | succ j=>exact ihr j (by simpa[Kids.len]using hj)
theorem Kids.IB(ks:Kids):∀k,(ks.drop k).bulk<=ks.bulk:=by
 induction ks with
 | nil=>intro k;cases k<;>simp[Kids.drop]
 | cons n k e t s r _ ihr =>
  intro j;cases j with
  | zero=>simp[Kids.drop]
  | succ j=>have:=ihr j;simp only[Kids.drop,Kids.bulk];omega
theorem Kids.drop_cons(ks:Kids):∀k,k<ks.len->∃n kd e t s r,ks.drop k = .cons n kd e t s r/\ks.drop (k+1)=r:=by
 induction ks with
 | nil=>intro k h;simp[Kids.len]at h
 | cons n k e t s r _ ihr =>
  intro j hj;cases j with
  | zero=>exact⟨n,k,e,t,s,r,rfl,by simp[Kids.drop,Kids.drop_zero]⟩
  | succ j=>exact ihr j (by simpa[Kids.len]using hj)
theorem Kids.eq_nil{ks:Kids}(h:ks.len=0):ks = .nil:=by
 cases ks with
 | nil=>rfl
 | cons=>simp[Kids.len]at h
/-- The cells of entries from b, off on. -/
def gI(S:Nat->Prop)(w:World):Kids->Nat->Nat->Prop
 | .nil,_,_=>True
 | .cons nm k e t sub rest,b,off=>S b/\w.cell? ⟨b,off,none⟩=some (.string nm)/\w.cell? ⟨b,off+1,none⟩=some (.int .i64 k)/\w.cell? ⟨b,off+2,none⟩=some (.bool e)/\w.cell? ⟨b,off+3,none⟩=some (.string t) /\
  (∃ao cap,w.cell? ⟨b,off+4,none⟩=some (.slice ao sub.len cap)/\sub.len<=cap/\cap<=maxLen/\(sub = .nil∨∃b' o',ao=some ⟨b',o',none⟩/\gI S w sub b' o'))/\gI S w rest b (off+5)
/-- A slice of entries. -/
def ay(S:Nat->Prop)(w:World)(v:Value)(ks:Kids):Prop :=
 ∃ao cap,v = .slice ao ks.len cap/\ks.len<=cap/\cap<=maxLen/\(ks = .nil∨∃b off,ao=some ⟨b,off,none⟩/\gI S w ks b off)
theorem gI.ag{S:Nat->Prop}{w w':World}(ha:Ag S w w'):∀ {ks:Kids} {b off:Nat},gI S w ks b off->gI S w' ks b off:=by
 intro ks
 induction ks with
 | nil=>intro b off _;trivial
 | cons nm k e t sub rest JZ ihr =>
  intro b off h;obtain⟨hs,h0,h1,h2,h3,⟨ao,cap,h4,hl,hm,hk⟩,hr⟩:=h;exact⟨hs,ha.cell (p:=⟨b,off,none⟩) hs h0,ha.cell (p:=⟨b,off+1,none⟩) hs h1,ha.cell (p:=⟨b,off+2,none⟩) hs h2,ha.cell (p:=⟨b,off+3,none⟩) hs h3,
   ⟨ao,cap,ha.cell (p:=⟨b,off+4,none⟩) hs h4,hl,hm,hk.imp id (fun⟨b',o',e1,e2⟩=>⟨b',o',e1,JZ e2⟩)⟩,ihr hr⟩
theorem gI.sub{S S':Nat->Prop}{w:World}(hss:∀k,k<w.heap.size->S k->S' k):∀ {ks:Kids} {b off:Nat},gI S w ks b off->gI S' w ks b off:=by
 intro ks
 induction ks with
 | nil=>intro b off _;trivial
 | cons nm k e t sub rest JZ ihr =>
  intro b off h;obtain⟨hs,h0,h1,h2,h3,⟨ao,cap,h4,hl,hm,hk⟩,hr⟩:=h;exact⟨hss _ (World.block_lt_of_cell? w _ h0) hs,h0,h1,h2,h3,⟨ao,cap,h4,hl,hm,hk.imp id (fun⟨b',o',e1,e2⟩=>⟨b',o',e1,JZ e2⟩)⟩,ihr hr⟩
theorem ay.ag{S:Nat->Prop}{w w':World}{v:Value}{ks:Kids}(h:ay S w v ks)(ha:Ag S w w'):ay S w' v ks:=by
 obtain⟨ao,cap,hv,hl,hm,hk⟩:=h;exact⟨ao,cap,hv,hl,hm,hk.imp id (fun⟨b,o,e1,e2⟩=>⟨b,o,e1,e2.ag ha⟩)⟩
theorem ay.sub{S S':Nat->Prop}{w:World}{v:Value}{ks:Kids}(h:ay S w v ks)(hss:∀k,k<w.heap.size->S k->S' k):ay S' w v ks:=by
 obtain⟨ao,cap,hv,hl,hm,hk⟩:=h;exact⟨ao,cap,hv,hl,hm,hk.imp id (fun⟨b,o,e1,e2⟩=>⟨b,o,e1,e2.sub hss⟩)⟩
theorem ay.below{S:Nat->Prop}{w w':World}{v:Value}{ks:Kids}(h:ay S w v ks)(hb:Below w.heap.size w w'):ay S w' v ks:=h.ag (Ag.of_below hb)
theorem gI.below{S:Nat->Prop}{w w':World}{ks:Kids}{b off:Nat}(h:gI S w ks b off)(hb:Below w.heap.size w w'):gI S w' ks b off:=h.ag (Ag.of_below hb)
theorem gI.drop{S:Nat->Prop}{w:World}:∀ {ks:Kids} {b off:Nat} (k:Nat),gI S w ks b off->gI S w (ks.drop k) b (off+5*k):=by
 intro ks
 induction ks with
 | nil=>intro b off k _;cases k<;>trivial
 | cons nm k e t sub rest JZ ihr =>
  intro b off j h;cases j with
  | zero=>exact h
  | succ j =>
   have:=ihr (b:=b) (off:=off+5) j h.2.2.2.2.2.2;rw[show off+5*(j+1)=off+5+5*j by omega];exact this
theorem gI.at'{S:Nat->Prop}{w:World}:∀ {ks:Kids} {b off j:Nat},gI S w ks b off->j<ks.len ->
 ∃nm kd e t sub r ao cap,ks.drop j = .cons nm kd e t sub r/\ks.drop (j+1)=r/\S b/\w.cell? ⟨b,off+j*5,none⟩=some (.string nm)/\w.cell? ⟨b,off+j*5+1,none⟩=some (.int .i64 kd)/\w.cell? ⟨b,off+j*5+2,none⟩=some (.bool e) /\
  w.cell? ⟨b,off+j*5+3,none⟩=some (.string t)/\w.cell? ⟨b,off+j*5+4,none⟩=some (.slice ao sub.len cap)/\ay S w (.slice ao sub.len cap) sub/\nm.size+t.size+8+sub.bulk+r.bulk<=ks.bulk:=by
 intro ks b off j h hj;have hd:=h.drop j;obtain⟨nm,kd,e,t,sub,r,e1,e2⟩:=ks.drop_cons j hj;rw[e1,show off+5*j=off+j*5 by omega]at hd;obtain⟨hs,h0,h1,h2,h3,⟨ao,cap,h4,hl,hm,hk⟩,hr⟩:=hd;have hb:=ks.IB j;rw[e1]at hb;simp only[Kids.bulk]at hb;exact⟨nm,kd,e,t,sub,r,ao,cap,e1,e2,hs,h0,h1,h2,h3,h4,⟨ao,cap,rfl,hl,hm,hk⟩,hb⟩
/-- The name ahead of place j. -/
def Kids.ahead:Kids->Nat->Option ByteArray->Option ByteArray
 | _,0,p=>p
 | .nil,_+1,p=>p
 | .cons nm _ _ _ _ r,j+1,_=>r.ahead j (some nm)
theorem Kids.ahead_zero(ks:Kids)(p:Option ByteArray):ks.ahead 0 p=p:=by cases ks<;>rfl
theorem Kids.iG:∀(ks:Kids) (j:Nat) (p:Option ByteArray) {nm:ByteArray} {kd:Int} {e:Bool} {t:ByteArray} {sub r:Kids},ks.drop j = .cons nm kd e t sub r->ks.ahead (j+1) p=some nm:=by
 intro ks
 induction ks with
 | nil=>intro j p nm kd e t sub r h;cases j<;>simp[Kids.drop]at h
 | cons n k e t s r _ ihr =>
  intro j p nm kd e' t' sub r' h;cases j with
  | zero =>
   simp only[Kids.drop,Kids.cons.injEq]at h;obtain⟨rfl,_⟩:=h;simp[Kids.ahead,Kids.ahead_zero]
  | succ j=>exact ihr j (some n) h
/-- A list of texts. -/
def Strs(S:Nat->Prop)(w:World)(v:Value)(l:List ByteArray):Prop :=
 ∃ao cap,v = .slice ao l.length cap/\l.length<=cap/\cap<=maxLen/\(l = []∨∃b off,ao=some ⟨b,off,none⟩/\S b/\∀j (h:j<l.length),w.cell? ⟨b,off+j,none⟩=some (.string l[j]))
theorem Strs.ag{S:Nat->Prop}{w w':World}{v:Value}{l:List ByteArray}(h:Strs S w v l)(ha:Ag S w w'):Strs S w' v l:=by
 obtain⟨ao,cap,hv,hl,hm,hk⟩:=h;exact⟨ao,cap,hv,hl,hm,hk.imp id (fun⟨b,o,e1,e2,e3⟩=>⟨b,o,e1,e2,fun j hj=>ha.cell (p:=⟨b,o+j,none⟩) e2 (e3 j hj)⟩)⟩
theorem Strs.sub{S S':Nat->Prop}{w:World}{v:Value}{l:List ByteArray}(h:Strs S w v l)(hss:∀k,k<w.heap.size->S k->S' k):Strs S' w v l:=by
 obtain⟨ao,cap,hv,hl,hm,hk⟩:=h;refine⟨ao,cap,hv,hl,hm,?_⟩;rcases hk with rfl|⟨b,o,e1,e2,e3⟩
 ·exact .inl rfl
 ·cases l with
  | nil=>exact .inl rfl
  | cons x r=>exact .inr ⟨b,o,e1,hss _ (World.block_lt_of_cell? w _ (e3 0 (by simp))) e2,e3⟩
theorem Strs.below{S:Nat->Prop}{w w':World}{v:Value}{l:List ByteArray}(h:Strs S w v l)(hb:Below w.heap.size w w'):Strs S w' v l:=h.ag (Ag.of_below hb)
theorem Strs.nil(S:Nat->Prop)(w:World):Strs S w (.slice none 0 0) []:=⟨none,0,rfl,Nat.le_refl _,by unfold maxLen;omega,.inl rfl⟩
theorem Strs.reads{S:Nat->Prop}{w:World}{v:Value}{l:List ByteArray}(h:Strs S w v l):Texts.Reads w v l:=by
 obtain⟨ao,cap,hv,hl,hm,hk⟩:=h;rcases hk with rfl|⟨b,o,rfl,_,e3⟩
 ·exact .inl ⟨ao,cap,rfl,hv⟩
 ·exact .inr ⟨b,o,cap,hv,by unfold maxLen at hm;omega,e3⟩
theorem Strs.bU{w:World}{B:Nat}{e:TypeId}{v:Value}{l:List ByteArray}(h:w.ownsRow B e 1 v l.length (l.map .string)):Strs (B<=·) w v l:=by
 rcases h.2 with⟨hv,h0⟩|⟨g,cap,cur,hv,hb,hg,hn,hc,hsz,htk⟩
 ·obtain rfl:=List.eq_nil_of_length_eq_zero h0;rw[hv];exact Strs.nil _ _
 ·refine⟨_,cap,hv,hn,hc,.inr ⟨g,0,rfl,hb,fun j hj=>?_⟩⟩;have h1:=World.ownsRow.cells h (g:=g) (by rw[hv];rfl) j (.string l[j]) (by rw[List.getElem?_map,List.getElem?_eq_getElem hj];rfl);have h2:(⟨g,0,none⟩:Addr).add j=⟨g,0+j,none⟩:=(by unfold Addr.add;split<;>simp_all);rw[h2]at h1;exact h1
def aB:List ByteArray->Nat
 | []=>0
 | s :: r=>s.size+1+aB r
theorem dI(l:List ByteArray):l.length<=aB l:=by
 induction l with
 | nil=>simp[aB]
 | cons s r ih=>simp only[aB,List.length_cons];omega
theorem vP{l:List ByteArray}{s:ByteArray}(h:s∈l):s.size+1<=aB l:=by
 induction l with
 | nil=>simp at h
 | cons x r ih =>
  simp only[aB];rcases List.mem_cons.1 h with rfl|h
  ·omega
  ·have:=ih h;omega
/-- A record. -/
structure Rec where
 path:ByteArray
 tree:Tree
 refs:List ByteArray
 hash:List UInt8
 size:Int
 deriving DecidableEq
def Rec.cells(r:Rec)(kv rv:Value):List Value:=[.string r.path,.int .i64 r.tree.kind,.bool r.tree.exec,.string r.tree.text,kv,rv]++(Lib.byteCells r.hash ++ [.int .i64 r.size])
def aT(S:Nat->Prop)(w:World)(cs:List Value)(r:Rec):Prop:=∃kv rv,cs=r.cells kv rv/\r.hash.length=32/\ay S w kv r.tree.kids/\Strs S w rv r.refs
theorem aT.ag{S:Nat->Prop}{w w':World}{cs:List Value}{r:Rec}(h:aT S w cs r)(ha:Ag S w w'):aT S w' cs r:=by
 obtain⟨kv,rv,e,hh,hk,hr⟩:=h;exact⟨kv,rv,e,hh,hk.ag ha,hr.ag ha⟩
theorem aT.sub{S S':Nat->Prop}{w:World}{cs:List Value}{r:Rec}(h:aT S w cs r)(hss:∀k,k<w.heap.size->S k->S' k):aT S' w cs r:=by
 obtain⟨kv,rv,e,hh,hk,hr⟩:=h;exact⟨kv,rv,e,hh,hk.sub hss,hr.sub hss⟩
theorem aT.below{S:Nat->Prop}{w w':World}{cs:List Value}{r:Rec}(h:aT S w cs r)(hb:Below w.heap.size w w'):aT S w' cs r:=h.ag (Ag.of_below hb)
theorem aT.length{S:Nat->Prop}{w:World}{cs:List Value}{r:Rec}(h:aT S w cs r):cs.length=39:=by
 obtain⟨kv,rv,rfl,hh,_,_⟩:=h;simp[Rec.cells,Lib.byteCells,hh]
def Rec.bulk(r:Rec):Nat:=r.path.size+r.tree.bulk+aB r.refs
end Tr

namespace Own
open Go.RowKit Mem
theorem bH{b:Nat}{t:TypeId}:∀(vs:List Value) (o:Nat) (w:World) {cs:Array Value},Bx w b cs t->∃cs',Bx (w.setCells b o vs) b cs' t/\cs'.size=cs.size
 | [],o,w,cs,h=>⟨cs,h,rfl⟩
 | v :: r,o,w,cs,h=>by
  obtain⟨cs',h1,h2⟩:=bH r (o+1) _ (h.set o v);exact⟨cs',h1,by rw[h2];simp⟩
theorem dN{w:World}{b:Nat}{cs:Array Value}{t:TypeId}(h:Bx w b cs t){j:Nat}(hj:j<cs.size):(w.cell? ⟨b,j,none⟩).isSome=true:=by
 rw[h.cell,Array.getElem?_eq_getElem hj];rfl
theorem aW{M:Nat->Prop}{a:World}{b:Nat}(hb:b<a.heap.size->M b):∀(vs:List Value) (o:Nat) {w:World},Kp M a w->Kp M a (w.setCells b o vs)
 | [],_,_,h=>h
 | v :: r,o,_,h=>aW hb r (o+1) (h.setCell ⟨b,o,none⟩ v hb)
theorem zM{M:Nat->Prop}{a w:World}(h:Kp M a w):Kp M a w.drew:=⟨h.os,h.tape,h.output,h.size,h.block⟩
theorem jm{w:World}{g n cap k base:Nat}{e:TypeId}{cur:Array Value}{ys:List Value}(hb:Bx w g cur e)(hbase:base<=g)(hs:cur.size=cap*k)(hn:n<=cap)(hm:cap<=maxLen)(hl:ys.length=n*k)(hc:∀j,j<n*k->w.cell? ⟨g,j,none⟩=ys[j]?) :
 w.ownsRow base e k (.slice (some ⟨g,0,none⟩) n cap) n ys:=by
 refine⟨hl,.inr ⟨g,cap,cur,rfl,hbase,hb,hn,hm,hs,?_⟩⟩;apply List.ext_getElem?;intro j;rw[List.getElem?_take];split
 ·rename_i h;rw[←hc j h,hb.cell];simp
 ·rw[List.getElem?_eq_none (by omega)]
theorem P7(xs V:List Value)(I k:Nat)(hI:I<=xs.length)(hV:V.length=k)(j:Nat) :
 (xs.take I++(V++xs.drop I))[j]? = if j<I then xs[j]? else if j<I+k then V[j-I]? else xs[j-k]?:=by
 have hl:(xs.take I).length=I:=(by rw[List.length_take];omega);by_cases h1:j<I
 ·rw[if_pos h1,List.getElem?_append_left (by omega),List.getElem?_take,if_pos h1]
 ·rw[if_neg h1,List.getElem?_append_right (by omega),hl];by_cases h2:j<I+k
  ·rw[if_pos h2,List.getElem?_append_left (by omega)]
  ·rw[if_neg h2,List.getElem?_append_right (by omega),List.getElem?_drop,hV];congr 1;omega
/-- Two writes into one block, one beside the other. -/
theorem IC{w w':World}{g I k N:Nat}{cur:Array Value}{e:TypeId}{D V:List Value}(hb:Bx w g cur e)(hV:V.length=k)(hD:D.length=N-I)(hI:I<=N)(hs:N+k<=cur.size)
 (hw:w'=(w.setCells g (I+k) D).setCells g I V∨w'=((w.setCells g I V).drew).setCells g (I+k) D) :
 (∃cur',Bx w' g cur' e/\cur'.size=cur.size)/\∀j,j<N+k->w'.cell? ⟨g,j,none⟩=if j<I then cur[j]? else if j<I+k then V[j-I]? else D[j-(I+k)]?:=by
 rcases hw with rfl|rfl
 ·obtain⟨c1,b1,s1⟩:=bH D (I+k) w hb;obtain⟨c2,b2,s2⟩:=bH V I _ b1;refine⟨⟨c2,b2,by omega⟩,fun j hj=>?_⟩;by_cases h1:j<I
  ·rw[if_pos h1,World.cell?_setCells_out _ _ _ _ _ (fun _ _=>.inl h1),World.cell?_setCells_out _ _ _ _ _ (fun _ _=>.inl (by show j<I+k;omega)),hb.cell]
  ·rw[if_neg h1];by_cases h2:j<I+k
   ·rw[if_pos h2];have:=World.cell?_setCells_in g V I _ (fun i hi=>dN b1 (by omega)) (j-I) (by omega);rw[show I+(j-I)=j by omega]at this;rw[this,List.getElem?_eq_getElem (by omega)]
   ·rw[if_neg h2,World.cell?_setCells_out _ _ _ _ _ (fun _ _=>.inr (by show I+V.length<=j;omega))];have:=World.cell?_setCells_in g D (I+k) _ (fun i hi=>dN hb (by omega)) (j-(I+k)) (by omega);rw[show I+k+(j-(I+k))=j by omega]at this;rw[this,List.getElem?_eq_getElem (by omega)]
 ·obtain⟨c1,b1,s1⟩:=bH V I w hb;have b1':Bx (w.setCells g I V).drew g c1 e:=b1;obtain⟨c2,b2,s2⟩:=bH D (I+k) _ b1';refine⟨⟨c2,b2,by omega⟩,fun j hj=>?_⟩;have hd:∀x,(w.setCells g I V).drew.cell? x=(w.setCells g I V).cell? x:=fun _=>rfl
  by_cases h1:j<I
  ·rw[if_pos h1,World.cell?_setCells_out _ _ _ _ _ (fun _ _=>.inl (by show j<I+k;omega)),hd,World.cell?_setCells_out _ _ _ _ _ (fun _ _=>.inl h1),hb.cell]
  ·rw[if_neg h1];by_cases h2:j<I+k
   ·rw[if_pos h2,World.cell?_setCells_out _ _ _ _ _ (fun _ _=>.inl h2),hd];have:=World.cell?_setCells_in g V I _ (fun i hi=>dN hb (by omega)) (j-I) (by omega);rw[show I+(j-I)=j by omega]at this;rw[this,List.getElem?_eq_getElem (by omega)]
   ·rw[if_neg h2];have:=World.cell?_setCells_in g D (I+k) _ (fun i hi=>dN b1' (by omega)) (j-(I+k)) (by omega);rw[show I+k+(j-(I+k))=j by omega]at this;rw[this,List.getElem?_eq_getElem (by omega)]
theorem zN{w w':World}{g i n cap k base:Nat}{cur:Array Value}{e:TypeId}{xs V:List Value}(hb:Bx w g cur e)(hbase:base<=g)(hV:V.length=k)(hi:i<=n)(hn:n+1<=cap)(hm:cap<=maxLen)(hs:cur.size=cap*k)(hl:xs.length=n*k)
 (hx:∀j,j<i*k->cur[j]? = xs[j]?) (hw:w'=(w.setCells g ((i+1)*k) (xs.drop (i*k))).setCells g (i*k) V∨w'=((w.setCells g (i*k) V).drew).setCells g ((i+1)*k) (xs.drop (i*k))) :
 w'.ownsRow base e k (.slice (some ⟨g,0,none⟩) (n+1) cap) (n+1) (xs.take (i*k)++(V++xs.drop (i*k))):=by
 have hik:i*k<=n*k:=Nat.mul_le_mul_right _ hi;have hck:(n+1)*k<=cap*k:=Nat.mul_le_mul_right _ hn;have e1:(n+1)*k=n*k+k:=Nat.succ_mul n k;have e2:(i+1)*k=i*k+k:=Nat.succ_mul i k;rw[e2]at hw;obtain⟨⟨cur',b',s'⟩,hc⟩:=IC (N:=n*k) (D:=xs.drop (i*k)) hb hV (by rw[List.length_drop,hl]) hik (by omega) hw;refine jm b' hbase (by omega) hn hm (by simp only[List.length_append,List.length_take,List.length_drop];omega) (fun j hj=>?_);rw[hc j (by omega),P7 xs V (i*k) k (by omega) hV];split
 ·rename_i h;exact hx j h
 ·split
  ·rfl
  ·rw[List.getElem?_drop];congr 1;omega
theorem dO{w:World}{base k n:Nat}{e:TypeId}{v:Value}{xs:List Value}(h:w.ownsRow base e k v n xs) :
 (v = .slice none 0 0/\n=0/\xs = [])∨∃g cap cur,v = .slice (some ⟨g,0,none⟩) n cap/\base<=g/\Bx w g cur e/\n<=cap/\cap<=maxLen/\cur.size=cap*k/\∀j,j<n*k->cur[j]? = xs[j]?:=by
 rcases h.2 with⟨hv,h0⟩|⟨g,cap,cur,hv,hb,hg,hn,hc,hsz,htk⟩
 ·refine .inl ⟨hv,h0,List.eq_nil_of_length_eq_zero ?_⟩;rw[h.1,h0];simp
 ·refine .inr ⟨g,cap,cur,hv,hb,hg,hn,hc,hsz,fun j hj=>?_⟩;rw[←htk,List.getElem?_take,if_pos hj];simp
/-- What an insertion gives. -/
def lU(w:World)(v:Value)(n k:Nat)(ys:List Value)(t:TypeId)(e:Ending)(w':World):Prop :=
 ∃v',e = .returned v'/\w'.ownsRow 0 t k v' (n+1) ys/\Kp (fun b=>v.ownBlock=some b) w w'/\∀b,v'.ownBlock=some b->v.ownBlock=some b∨w.heap.size<=b
theorem IE{w:World}{ys:List Value}{z:Array Value}{n G k:Nat}{e:TypeId}(hl:ys.length=n*k)(hz:z.size=k)(hn:n<=G)(hm:G<=maxLen) :
 (w.drew.alloc (.cells (ys.toArray++Builtin.zeroCells z (G-n)) e)).ownsRow 0 e k (.slice (some ⟨w.heap.size,0,none⟩) n G) n ys:=by
 have hb:=Bx.new w.drew (ys.toArray++Builtin.zeroCells z (G-n)) e;refine jm (g:=w.heap.size) hb (Nat.zero_le _) ?_ hn hm hl (fun j hj=>?_)
 ·simp only[Array.size_append,List.size_toArray,size_zeroCells,hl,hz,←Nat.add_mul];congr 1;omega
 ·have hc:=hb.cell j;rw[Array.getElem?_append_left (by simp only[List.size_toArray];omega)]at hc
  simpa using hc
theorem Zc{g n c:Nat}{a:Addr}(h:(some a).map (·.block)=some g):a.block=g:=by simpa using h
theorem iP{w:World}{v:Value}{xs V:List Value}{z:Array Value}{n G k:Nat}{t:TypeId}(hl:xs.length=n*k)(hV:V.length=k)(hz:z.size=k)(hn:n+1<=G)(hm:G<=maxLen) :
 lU w v n k (xs++V) t (.returned (.slice (some ⟨w.heap.size,0,none⟩) (n+1) G)) (w.drew.alloc (.cells ((xs++V).toArray++Builtin.zeroCells z (G-(n+1))) t)) :=
 ⟨_,rfl,IE (by rw[List.length_append,hl,hV,Nat.succ_mul]) hz hn hm,Kp.of_below (((Below.refl _ w).drew).alloc (Nat.le_refl _) _),fun b hb=>by
  simp[Value.ownBlock]at hb;exact .inr (by omega)⟩
theorem yt{w w':World}{v:Value}{xs V:List Value}{z:Array Value}{n i G k:Nat}{t:TypeId}(hi:i<=n)(hl:xs.length=n*k)(hV:V.length=k)(hz:z.size=k)(hn:n+1<=G)(hm:G<=maxLen)
 (hw:w'=(((w.alloc (.cells ((xs.take (i*k)).toArray++Builtin.zeroCells z (n+1-i)++Builtin.zeroCells z (G-(n+1))) t)).drew.setCells w.heap.size (i*k) V).drew).setCells w.heap.size ((i+1)*k) (xs.drop (i*k))) :
 lU w v n k (xs.take (i*k)++(V++xs.drop (i*k))) t (.returned (.slice (some ⟨w.heap.size,0,none⟩) (n+1) G)) w':=by
 have hik:i*k<=n*k:=Nat.mul_le_mul_right _ hi;have hb:=Bx.new w ((xs.take (i*k)).toArray++Builtin.zeroCells z (n+1-i)++Builtin.zeroCells z (G-(n+1))) t;have htl:(xs.take (i*k)).length=i*k:=(by rw[List.length_take];omega);refine⟨_,rfl,zN (w:=(w.alloc (.cells ((xs.take (i*k)).toArray++Builtin.zeroCells z (n+1-i)++Builtin.zeroCells z (G-(n+1))) t)).drew) hb (Nat.zero_le _) hV hi hn hm ?_ hl (fun j hj=>?_) (.inr hw),?_,fun b hb=>?_⟩
 ·simp only[Array.size_append,List.size_toArray,size_zeroCells,htl,hz,←Nat.add_mul];congr 1;omega
 ·rw[Array.getElem?_append_left (by simp only[Array.size_append,List.size_toArray,htl];omega),Array.getElem?_append_left (by simp only[List.size_toArray,htl];omega)];simp only[List.getElem?_toArray,List.getElem?_take,if_pos hj]
 ·rw[hw];refine aW (fun h=>absurd h (Nat.lt_irrefl _)) _ _ ?_;exact zM (aW (fun h=>absurd h (Nat.lt_irrefl _)) _ _ (zM ((Kp.refl (fun b=>v.ownBlock=some b) w).alloc _)))
 ·simp[Value.ownBlock]at hb;exact .inr (by omega)
theorem lV{w w':World}{g c:Nat}{cur:Array Value}{xs V:List Value}{n i k:Nat}{t:TypeId}(hb:Bx w g cur t)(hi:i<=n)(hl:xs.length=n*k)(hV:V.length=k)(hs:cur.size=c*k)(hn:n+1<=c)(hm:c<=maxLen)(hx:∀j,j<n*k->cur[j]? = xs[j]?)
 (hw:w'=(w.drew.setCells g ((i+1)*k) (xs.drop (i*k))).setCells g (i*k) V∨w'=(w.setCells g ((i+1)*k) (xs.drop (i*k))).setCells g (i*k) V) :
 lU w (.slice (some ⟨g,0,none⟩) n c) n k (xs.take (i*k)++(V++xs.drop (i*k))) t (.returned (.slice (some ⟨g,0,none⟩) (n+1) c)) w':=by
 have hik:i*k<=n*k:=Nat.mul_le_mul_right _ hi;refine⟨_,rfl,?_,?_,fun b h=>.inl h⟩
 ·rcases hw with hw|hw
  ·exact zN (w:=w.drew) hb (Nat.zero_le _) hV hi hn hm hs hl (fun j hj=>hx j (by omega)) (.inl hw)
  ·exact zN (w:=w) hb (Nat.zero_le _) hV hi hn hm hs hl (fun j hj=>hx j (by omega)) (.inl hw)
 ·have hM:g<w.heap.size->(fun b=>(Value.slice (some ⟨g,0,none⟩) n c).ownBlock=some b) g:=fun _=>rfl
  rcases hw with rfl|rfl
  ·exact aW hM _ _ (aW hM _ _ (zM (Kp.refl _ w)))
  ·exact aW hM _ _ (aW hM _ _ (Kp.refl _ w))
end Own

namespace Tr
open Go.RowKit Mem
def Kids.take:Kids->Nat->Kids
 | _,0=>.nil
 | .nil,_+1=>.nil
 | .cons n k e t s r,j+1=>.cons n k e t s (r.take j)
theorem Kids.take_zero(ks:Kids):ks.take 0 = .nil:=by cases ks<;>rfl
theorem Kids.take_succ:∀(ks:Kids) (j:Nat) {nm:ByteArray} {kd:Int} {e:Bool} {t:ByteArray} {sub r:Kids},ks.drop j = .cons nm kd e t sub r->ks.take (j+1)=(ks.take j).append (.cons nm kd e t sub .nil):=by
 intro ks
 induction ks with
 | nil=>intro j nm kd e t sub r h;cases j<;>simp[Kids.drop]at h
 | cons n k e t s r _ ihr =>
  intro j nm kd e' t' sub r' h;cases j with
  | zero =>
   simp only[Kids.drop,Kids.cons.injEq]at h;obtain⟨rfl,rfl,rfl,rfl,rfl,rfl⟩:=h;simp[Kids.take,Kids.take_zero,Kids.append]
  | succ j =>
   have h2:r.drop j = .cons nm kd e' t' sub r':=h;rw[Kids.take,ihr j h2,Kids.take,Kids.append]
theorem Kids.jL(ks:Kids):∀j,ks.len<=j->ks.take j=ks:=by
 induction ks with
 | nil=>intro j _;cases j<;>rfl
 | cons n k e t s r _ ihr =>
  intro j hj;cases j with
  | zero=>simp[Kids.len]at hj
  | succ j=>rw[Kids.take,ihr j (by simpa[Kids.len]using hj)]
/-- The cells of entries, one behind the other. -/
def Row(S:Nat->Prop)(w:World):Kids->List Value->Prop
 | .nil,xs=>xs = []
 | .cons nm k e t s r,xs=>∃sv rest,xs = .string nm :: .int .i64 k :: .bool e :: .string t :: sv :: rest/\ay S w sv s/\Row S w r rest
theorem Row.ag{S:Nat->Prop}{w w':World}(ha:Ag S w w'):∀ {ks:Kids} {xs:List Value},Row S w ks xs->Row S w' ks xs:=by
 intro ks
 induction ks with
 | nil=>intro xs h;exact h
 | cons nm k e t s r _ ihr =>
  rintro xs ⟨sv,rest,h1,h2,h3⟩;exact⟨sv,rest,h1,h2.ag ha,ihr h3⟩
theorem Row.below{S:Nat->Prop}{w w':World}{ks:Kids}{xs:List Value}(h:Row S w ks xs)(hb:Below w.heap.size w w'):Row S w' ks xs:=h.ag (Ag.of_below hb)
theorem Row.sub{S S':Nat->Prop}{w:World}(hs:∀k,k<w.heap.size->S k->S' k):∀ {ks:Kids} {xs:List Value},Row S w ks xs->Row S' w ks xs:=by
 intro ks
 induction ks with
 | nil=>intro xs h;exact h
 | cons nm k e t s r _ ihr =>
  rintro xs ⟨sv,rest,h1,h2,h3⟩;exact⟨sv,rest,h1,h2.sub hs,ihr h3⟩
theorem Row.snoc{S:Nat->Prop}{w:World}{nm:ByteArray}{k:Int}{e:Bool}{t:ByteArray}{s:Kids}{sv:Value}(hs:ay S w sv s):∀ {ks:Kids} {xs:List Value},Row S w ks xs->Row S w (ks.append (.cons nm k e t s .nil)) (xs ++ [.string nm,.int .i64 k,.bool e,.string t,sv]):=by
 intro ks
 induction ks with
 | nil=>rintro xs rfl;exact⟨sv,[],rfl,hs,rfl⟩
 | cons Zd k' e' t' s' r _ ihr =>
  rintro xs ⟨sv',rest,rfl,h2,h3⟩;exact⟨sv',rest ++ [.string nm,.int .i64 k,.bool e,.string t,sv],rfl,h2,ihr h3⟩
theorem Row.elems{S:Nat->Prop}{w:World}{b:Nat}(hS:S b):∀ {ks:Kids} {xs:List Value} {off:Nat},Row S w ks xs->(∀j u,xs[j]? = some u->w.cell? ⟨b,off+j,none⟩=some u)->gI S w ks b off:=by
 intro ks
 induction ks with
 | nil=>intro _ _ _ _;trivial
 | cons nm k e t s r _ ihr =>
  rintro xs off ⟨sv,rest,rfl,⟨ao,cap,rfl,hl,hm,hk⟩,h3⟩ hc;refine⟨hS,by simpa using hc 0 _ rfl,hc 1 _ rfl,hc 2 _ rfl,hc 3 _ rfl,⟨ao,cap,hc 4 _ rfl,hl,hm,hk⟩,ihr h3 (fun j u hj=>?_)⟩;have:=hc (5+j) u (by rw[show 5+j=j+5 by omega];exact hj);rwa[←Nat.add_assoc]at this
theorem Row.kids{S:Nat->Prop}{w:World}{B:Nat}{t:TypeId}{v:Value}{ks:Kids}{xs:List Value}(h:Row S w ks xs)(hS:∀b,B<=b->S b)(ho:w.ownsRow B t 5 v ks.len xs):ay S w v ks:=by
 rcases ho.2 with⟨rfl,h0⟩|⟨g,cap,cur,rfl,hb,hg,hn,hc,hsz,htk⟩
 ·rw[Kids.eq_nil h0];exact⟨none,0,rfl,Nat.le_refl _,by unfold maxLen;omega,.inl rfl⟩
 ·refine⟨some ⟨g,0,none⟩,cap,rfl,hn,hc,.inr ⟨g,0,rfl,h.elems (hS _ hb) (fun j u hj=>?_)⟩⟩;have:=World.ownsRow.cells ho (g:=g) rfl j u hj;rw[Addr.add_lit]at this;exact this
end Tr

namespace Sp
open Go
theorem qB:∀(x y:List UInt8),Op.bytesLess x y=decide (x<y)
 | [],[]=>by simp[Op.bytesLess]
 | _ :: _,[]=>by simp[Op.bytesLess]
 | [],_ :: _=>by simp[Op.bytesLess]
 | a :: x,b :: y=>by
  rw[Op.bytesLess,qB x y];simp only[List.cons_lt_cons_iff];by_cases h1:a<b<;>by_cases h2:a=b<;>by_cases h3:x<y<;>simp[h1,h2,h3]
/-- less, by bytes -/
def lt(a b:ByteArray):Bool:=Op.bytesLess a.toList b.toList
theorem toList_inj{a b:ByteArray}(h:a.toList=b.toList):a=b:=by
 rw[ByteArray.toList_eq,ByteArray.toList_eq]at h;cases a;cases b
 simp at h;rw[h]
theorem lt_irrefl(a:ByteArray):lt a a=false:=by
 unfold lt;rw[qB];simp
theorem lt_trans{a b c:ByteArray}(h:lt a b=true)(k:lt b c=true):lt a c=true:=by
 unfold lt at *;rw[qB]at *;simp at *;exact List.lt_trans h k
theorem lt_asymm{a b:ByteArray}(h:lt a b=true):lt b a=false:=by
 cases k:lt b a
 ·rfl
 ·have:=lt_irrefl a;rw[lt_trans h k]at this;cases this
theorem EN{a b:ByteArray}(h:lt a b=false)(k:lt b a=false):a=b:=by
 unfold lt at *;rw[qB]at *;simp at *;exact toList_inj (List.le_antisymm k h)
theorem KZ{a b:ByteArray}(h:lt a b=true):a≠b:=by
 rintro rfl;rw[lt_irrefl]at h;cases h
section
variable {α : Type} (key : α → ByteArray)
/-- rising by their keys -/
def bf(l:List α):Prop:=l.Pairwise fun a b=>lt (key a) (key b)=true
def place(l:List α)(p:ByteArray):Nat:=(l.takeWhile fun r=>lt (key r) p).length
def get(l:List α)(p:ByteArray):Option α:=l.find? fun r=>decide (key r=p)
def put(l:List α)(r:α):List α:=l.take (place key l (key r))++r :: l.drop (place key l (key r))
def cut(l:List α)(p:ByteArray):List α:=l.filter fun r=>decide (key r≠p)
theorem qC(l:List α)(p:ByteArray):place key l p<=l.length:=List.Sublist.length_le (List.takeWhile_sublist _)
theorem vS(x:α)(l:List α)(p:ByteArray):place key (x :: l) p=if lt (key x) p=true then place key l p+1 else 0:=by
 unfold place;rw[List.takeWhile_cons];split<;>simp_all
variable {key}
theorem before{l:List α}{p:ByteArray}:∀ {j:Nat} (h:j<l.length),j<place key l p->lt (key l[j]) p=true:=by
 induction l with
 | nil=>intro j h;simp at h
 | cons x r ih =>
  intro j h hj;rw[vS]at hj;by_cases hx:lt (key x) p=true
  ·rw[if_pos hx]at hj;cases j with
   | zero=>exact hx
   | succ j=>exact ih (by simpa using h) (by omega)
  ·rw[if_neg hx]at hj;omega
theorem behind{l:List α}(hr:bf key l){p:ByteArray}:∀ {j:Nat} (h:j<l.length),place key l p<=j->lt (key l[j]) p=false:=by
 induction l with
 | nil=>intro j h;simp at h
 | cons x r ih =>
  intro j h hj;rw[vS]at hj;unfold bf at hr;rw[List.pairwise_cons]at hr;by_cases hx:lt (key x) p=true
  ·rw[if_pos hx]at hj;cases j with
   | zero=>omega
   | succ j=>exact ih hr.2 (by simpa using h) (by omega)
  ·cases j with
   | zero=>simpa using hx
   | succ j =>
    have:=hr.1 _ (List.getElem_mem (by simpa using h:j<r.length));cases e:lt (key (x :: r)[j+1]) p
    ·rfl
    ·rw[List.getElem_cons_succ]at e;exact absurd (lt_trans this e) hx
theorem get_some{l:List α}{p:ByteArray}{r:α}(h:get key l p=some r):r∈l/\key r=p:=by
 unfold get at h;exact⟨List.mem_of_find?_eq_some h,by simpa using List.find?_some h⟩
theorem get_none{l:List α}{p:ByteArray}(h:get key l p=none):∀r∈l,key r≠p:=by
 unfold get at h;intro r hr
 simpa using List.find?_eq_none.1 h r hr
theorem lW{l:List α}(hr:bf key l){a b:α}(ha:a∈l)(hb:b∈l)(h:key a=key b):a=b:=by
 unfold bf at hr
 induction l with
 | nil=>simp at ha
 | cons x r ih =>
  rw[List.pairwise_cons]at hr;rcases List.mem_cons.1 ha with e1|ha
  ·rcases List.mem_cons.1 hb with e2|hb
   ·rw[e1,e2]
   ·rw[e1]at h;exact absurd h (KZ (hr.1 _ hb))
  ·rcases List.mem_cons.1 hb with e2|hb
   ·rw[e2]at h;exact absurd h.symm (KZ (hr.1 _ ha))
   ·exact ih hr.2 ha hb
theorem get_of_mem{l:List α}(hr:bf key l){a:α}(ha:a∈l):get key l (key a)=some a:=by
 cases h:get key l (key a)with
 | none=>exact absurd rfl (get_none h a ha)
 | some b=>have:=get_some h;rw[lW hr this.1 ha this.2]
/-- What stands at the place. -/
theorem rX{l:List α}(hr:bf key l)(p:ByteArray):get key l p=if h:place key l p<l.length then(if key l[place key l p]=p then some l[place key l p]else none)else none:=by
 cases h:get key l p with
 | none =>
  split
  ·rename_i h1;rw[if_neg (get_none h _ (List.getElem_mem h1))]
  ·rfl
 | some r =>
  obtain⟨hm,hk⟩:=get_some h;obtain⟨j,hj,rfl⟩:=List.getElem_of_mem hm;have h1:place key l p<=j:=by
   rcases Nat.lt_or_ge j (place key l p)with h2|h2
   ·have:=before hj h2;rw[hk,lt_irrefl]at this;cases this
   ·exact h2
  have h2:place key l p<l.length:=(by omega);rw[dif_pos h2];have h3:lt (key l[place key l p]) p=false:=behind hr h2 (Nat.le_refl _);have h4:place key l p=j:=by
   rcases Nat.lt_or_ge (place key l p) j with h5|h5
   ·have:=List.pairwise_iff_getElem.1 hr _ _ h2 hj h5;rw[hk,h3]at this;cases this
   ·omega
  have h5:l[place key l p]=l[j]:=(by simp only[h4]);rw[h5,if_pos hk]
theorem jM(l:List α)(r:α):(put key l r).length=l.length+1:=by
 have:=qC key l (key r);simp[put];omega
theorem jo{l:List α}{r x:α}:x∈put key l r↔x=r∨x∈l:=by
 unfold put;rw[List.mem_append,List.mem_cons];have hm:x∈l↔x∈l.take (place key l (key r))∨x∈l.drop (place key l (key r)):=(by rw[←List.mem_append,List.take_append_drop]);rw[hm];constructor
 ·rintro(h|h|h)
  ·exact .inr (.inl h)
  ·exact .inl h
  ·exact .inr (.inr h)
 ·rintro(h|h|h)
  ·exact .inr (.inl h)
  ·exact .inl h
  ·exact .inr (.inr h)
theorem pI{l:List α}(hr:bf key l){r:α}(hn:get key l (key r)=none):bf key (put key l r):=by
 unfold put bf;rw[List.pairwise_append];refine⟨List.Pairwise.sublist (List.take_sublist _ _) hr,List.pairwise_cons.2 ⟨?_,List.Pairwise.sublist (List.drop_sublist _ _) hr⟩,?_⟩
 ·intro x hx;obtain⟨j,hj,rfl⟩:=List.getElem_of_mem hx;rw[List.length_drop]at hj;rw[List.getElem_drop];have h1:=behind hr (j:=place key l (key r)+j) (p:=key r) (by omega) (by omega);cases e:lt (key r) (key l[place key l (key r)+j])
  ·exact absurd (EN h1 e) (get_none hn _ (List.getElem_mem _))
  ·rfl
 ·intro a ha b hb;obtain⟨i,hi,rfl⟩:=List.getElem_of_mem ha;rw[List.length_take]at hi;rw[List.getElem_take];have h1:lt (key l[i]) (key r)=true:=before (p:=key r) (by omega) (by omega);rcases List.mem_cons.1 hb with rfl|hb
  ·exact h1
  ·obtain⟨j,hj,rfl⟩:=List.getElem_of_mem hb;rw[List.length_drop]at hj;rw[List.getElem_drop];exact List.pairwise_iff_getElem.1 hr _ _ _ (by omega) (by omega)
theorem get_put{l:List α}(hr:bf key l){r:α}(hn:get key l (key r)=none)(p:ByteArray):get key (put key l r) p=if p=key r then some r else get key l p:=by
 have hp:=pI hr hn;by_cases h:p=key r
 ·subst h;rw[if_pos rfl];exact get_of_mem hp (jo.2 (.inl rfl))
 ·rw[if_neg h];cases e:get key l p with
  | some x =>
   obtain⟨hm,rfl⟩:=get_some e;exact get_of_mem hp (jo.2 (.inr hm))
  | none =>
   cases e2:get key (put key l r) p with
   | none=>rfl
   | some x =>
    obtain⟨hm,rfl⟩:=get_some e2;rcases jo.1 hm with rfl|hm
    ·exact absurd rfl h
    ·exact absurd rfl (get_none e x hm)
end
end Sp

namespace Tab
open Go.RowKit Mem Tr Own
/-- The cells of records, one behind the other. -/
def iq(F:Nat->Prop)(w:World):List Rec->List Value->Prop
 | [],xs=>xs = []
 | r :: rs,xs=>∃cs rest,xs=cs++rest/\aT F w cs r/\iq F w rs rest
theorem iq.ag{F:Nat->Prop}{w w':World}(ha:Ag F w w'):∀ {rs:List Rec} {xs:List Value},iq F w rs xs->iq F w' rs xs:=by
 intro rs
 induction rs with
 | nil=>intro xs h;exact h
 | cons r rs ih =>
  rintro xs ⟨cs,rest,h1,h2,h3⟩;exact⟨cs,rest,h1,h2.ag ha,ih h3⟩
theorem iq.sub{F F':Nat->Prop}{w:World}(hs:∀k,k<w.heap.size->F k->F' k):∀ {rs:List Rec} {xs:List Value},iq F w rs xs->iq F' w rs xs:=by
 intro rs
 induction rs with
 | nil=>intro xs h;exact h
 | cons r rs ih =>
  rintro xs ⟨cs,rest,h1,h2,h3⟩;exact⟨cs,rest,h1,h2.sub hs,ih h3⟩
theorem dX{F:Nat->Prop}{w:World}{cs:List Value}{r:Rec}(h:aT F w cs r):∀v∈cs,v.oneCell'=true:=by
 obtain⟨kv,rv,rfl,hh,⟨ao,cap,rfl,_⟩,⟨dL,cap2,rfl,_⟩⟩:=h;intro v hv;simp only[Rec.cells,List.mem_append,List.mem_cons,Lib.byteCells,List.mem_map,List.not_mem_nil,or_false]at hv;rcases hv with(rfl|rfl|rfl|rfl|rfl|rfl)|(⟨x,_,rfl⟩|rfl)<;>rfl
theorem iq.one{F:Nat->Prop}{w:World}:∀ {rs:List Rec} {xs:List Value},iq F w rs xs->∀v∈xs,v.oneCell'=true:=by
 intro rs
 induction rs with
 | nil=>rintro xs rfl v hv;cases hv
 | cons r rs ih =>
  rintro xs ⟨cs,rest,rfl,h2,h3⟩ v hv;rcases List.mem_append.1 hv with hv|hv
  ·exact dX h2 v hv
  ·exact ih h3 v hv
theorem iq.at{F:Nat->Prop}{w:World}:∀ {rs:List Rec} {xs:List Value} {j:Nat} (hj:j<rs.length),iq F w rs xs->∃cs,aT F w cs rs[j]/\cs.length=39/\∀i u,cs[i]? = some u->xs[j*39+i]? = some u:=by
 intro rs
 induction rs with
 | nil=>intro xs j hj;simp at hj
 | cons r rs ih =>
  rintro xs j hj ⟨cs,rest,rfl,h2,h3⟩;cases j with
  | zero=>exact⟨cs,h2,h2.length,fun i u hi=>by rw[Nat.zero_mul,Nat.zero_add,List.getElem?_append_left (List.getElem?_eq_some_iff.1 hi).1];exact hi⟩
  | succ j =>
   obtain⟨cs',g1,g2,g3⟩:=ih (j:=j) (by simpa using hj) h3;refine⟨cs',g1,g2,fun i u hi=>?_⟩;rw[List.getElem?_append_right (by rw[h2.length];omega),h2.length,show(j+1)*39+i-39=j*39+i by omega];exact g3 i u hi
theorem iq.append{F:Nat->Prop}{w:World}{rs':List Rec}{ys:List Value}(h':iq F w rs' ys):∀ {rs:List Rec} {xs:List Value},iq F w rs xs->iq F w (rs++rs') (xs++ys):=by
 intro rs
 induction rs with
 | nil=>rintro xs rfl;exact h'
 | cons r rs ih =>
  rintro xs ⟨cs,rest,rfl,h2,h3⟩;exact⟨cs,rest++ys,by rw[List.append_assoc],h2,ih h3⟩
theorem iq.split{F:Nat->Prop}{w:World}:∀ {rs:List Rec} {xs:List Value} (i:Nat),iq F w rs xs->iq F w (rs.take i) (xs.take (i*39))/\iq F w (rs.drop i) (xs.drop (i*39)):=by
 intro rs
 induction rs with
 | nil=>rintro xs i rfl;simp[iq]
 | cons r rs ih =>
  rintro xs i ⟨cs,rest,rfl,h2,h3⟩;cases i with
  | zero=>exact⟨rfl,⟨cs,rest,rfl,h2,h3⟩⟩
  | succ i =>
   obtain⟨g1,g2⟩:=ih i h3;have e:(i+1)*39=cs.length+i*39:=(by rw[h2.length];omega);rw[e,List.take_length_add_append,List.drop_length_add_append];exact⟨⟨cs,_,rfl,h2,g1⟩,g2⟩
theorem iq.insert{F:Nat->Prop}{w:World}{rs:List Rec}{xs cs:List Value}{r:Rec}(h:iq F w rs xs)(hr:aT F w cs r)(i:Nat):iq F w (rs.take i++r :: rs.drop i) (xs.take (i*39)++(cs++xs.drop (i*39))) :=
 iq.append (rs':=r :: rs.drop i) (show iq F w (r :: rs.drop i) _ from⟨cs,_,rfl,hr,(h.split i).2⟩) (h.split i).1
theorem kZ{w:World}{B B' k k' n n':Nat}{t t':TypeId}{v v':Value}{xs xs':List Value}(h:w.ownsRow B t k v n xs)(h':w.ownsRow B' t' k' v' n' xs')(ht:t≠t'):∀b,v.ownBlock=some b->v'.ownBlock≠some b:=by
 intro b hb hb';rcases h.2 with⟨rfl,_⟩|⟨g,cap,cur,rfl,_,hg,_⟩
 ·cases hb
 rcases h'.2 with⟨rfl,_⟩|⟨g',cap',cur',rfl,_,hg',_⟩
 ·cases hb'
 obtain rfl:g=b:=(by simpa[Value.ownBlock]using hb);obtain rfl:g'=g:=(by simpa[Value.ownBlock]using hb');rw[hg]at hg';cases hg'
 exact ht rfl
theorem dw{w:World}{B k n b:Nat}{t t':TypeId}{v:Value}{xs:List Value}{cs:Array Value}(h:w.ownsRow B t k v n xs)(hb:Bx w b cs t')(ht:t≠t'):v.ownBlock≠some b:=by
 intro e;rcases h.2 with⟨rfl,_⟩|⟨g,cap,cur,rfl,_,hg,_⟩
 ·cases e
 obtain rfl:g=b:=(by simpa[Value.ownBlock]using e);unfold Bx at hb;rw[hg]at hb;cases hb
 exact ht rfl
theorem iI{w w':World}{B k n:Nat}{t:TypeId}{v:Value}{xs:List Value}(h:w.ownsRow B t k v n xs)(hb:∀b,v.ownBlock=some b->w'.heap[b]? = w.heap[b]?):w'.ownsRow B t k v n xs:=by
 refine⟨h.1,?_⟩;rcases h.2 with h0|⟨g,cap,cur,rfl,h1,hg,h2⟩
 ·exact .inl h0
 ·exact .inr ⟨g,cap,cur,rfl,h1,by rw[hb g rfl];exact hg,h2⟩
theorem uO{w:World}{B k n:Nat}{t:TypeId}{v:Value}{xs:List Value}(h:w.ownsRow B t k v n xs):w.ownsRow 0 t k v n xs:=by
 refine⟨h.1,?_⟩;rcases h.2 with h0|⟨g,cap,cur,rfl,h1,hg,h2⟩
 ·exact .inl h0
 ·exact .inr ⟨g,cap,cur,rfl,Nat.zero_le _,hg,h2⟩
theorem kN{w:World}{B k n:Nat}{t:TypeId}{v:Value}{xs:List Value}(h:w.ownsRow B t k v n xs):∀b,v.ownBlock=some b->b<w.heap.size:=fun b hb=>(h.lt b hb).2
theorem aN{M:Nat->Prop}{w w':World}{B k n:Nat}{t:TypeId}{v:Value}{xs:List Value}(h:w.ownsRow B t k v n xs)(hk:Kp M w w')(hd:∀b,v.ownBlock=some b->¬M b):w'.ownsRow B t k v n xs :=
 iI h fun b hb=>hk.block b (kN h b hb) (hd b hb)
/-- A table that keeps these records: M: the blocks that it may write; F: those in which its records' trees and references lie. -/
structure At(M F:Nat->Prop)(w:World)(t:Nat)(rs:List Rec):Prop where
 box:∃kv vv xs,Bx w t #[kv,vv] 174/\w.ownsRow 0 9 1 kv rs.length (rs.map fun r=>.string r.path)/\w.ownsRow 0 31 39 vv rs.length xs/\iq F w rs xs /\
  (∀b,kv.ownBlock=some b->M b)/\∀b,vv.ownBlock=some b->M b
 mt:M t
 uQ:∀b,M b->¬F b
 lt:∀b,M b->b<w.heap.size
 uC:∀b,F b->b<w.heap.size
 rise:Sp.bf Rec.path rs
theorem At.kp{M F N:Nat->Prop}{w w':World}{t:Nat}{rs:List Rec}(h:At M F w t rs)(hk:Kp N w w')(hM:∀b,M b->¬N b)(hF:∀b,F b->¬N b):At M F w' t rs:=by
 obtain⟨⟨kv,vv,xs,b0,o1,o2,hv,m1,m2⟩,mt,uQ,lt,uC,rise⟩:=h;exact⟨⟨kv,vv,xs,b0.kp hk (hM t mt),aN o1 hk (fun b hb=>hM b (m1 b hb)),aN o2 hk (fun b hb=>hM b (m2 b hb)),hv.ag (Ag.bg hk fun k _ hk=>hF k hk),m1,m2⟩,mt,uQ,
  fun b hb=>Nat.lt_of_lt_of_le (lt b hb) hk.size,fun b hb=>Nat.lt_of_lt_of_le (uC b hb) hk.size,rise⟩
theorem At.below{M F:Nat->Prop}{w w':World}{t:Nat}{rs:List Rec}(h:At M F w t rs)(hb:Below w.heap.size w w'):At M F w' t rs :=
 h.kp (Kp.of_below (M:=fun _=>False) hb) (fun _ _ h=>h) (fun _ _ h=>h)
end Tab

namespace yu
open Go.RowKit
theorem ext(s:ByteArray)(c:Int)(w:World):(callFunc 238 #[.string s,.int .u8 c]).run Tryz.prog w = .ok (.value (.int .i64 (firstIdx s c.toNat.toUInt8))) w:=by
 rw[run_callFunc_extern (e:=Extern.BytealgIndexByte.indexByte) Tryz.func238 (by kernel_rfl) (by kernel_rfl) (by kernel_rfl) (by kernel_rfl),run_indexByte_string];rfl
theorem stringslite_IndexByte(s:ByteArray)(c:Int)(w:World) :
 Calls Tryz.prog 224 #[.string s,.int .u8 c] w fun e w'=>e = .returned (.int .i64 (firstIdx s c.toNat.toUInt8))/\w=w':=by
 have hx:=ext
 go_enter Tryz.func224,Tryz.ntmps224
 go_wp2
 go_ret;exact⟨rfl,rfl⟩
theorem strings_IndexByte(s:ByteArray)(c:Int)(w:World) :
 Calls Tryz.prog 191 #[.string s,.int .u8 c] w fun e w'=>e = .returned (.int .i64 (firstIdx s c.toNat.toUInt8))/\w=w':=by
 go_enter Tryz.func191,Tryz.ntmps191
 go_wp2_with fail;refine(stringslite_IndexByte _ _ _).mono ?_;rintro e w1 ⟨rfl,rfl⟩
 go_wp2_with fail
 go_ret;exact⟨rfl,rfl⟩
/-- the first place of c in a list, or -1 -/
def first(l:List UInt8)(c:UInt8):Int:=match l.findIdx? (· == c)with|some i=>i|none=>-1
theorem find_range(n:Nat):∀(p:Nat->Bool) (m:Nat),(List.range' m n).find? p=((List.range' 0 n).find? fun i=>p (m+i)).map (m+·):=by
 induction n with
 | zero=>intro p m;rfl
 | succ n ih =>
  intro p m;rw[List.range'_succ,List.range'_succ,List.find?_cons,List.find?_cons,ih p (m+1),ih (fun i=>p (m+i)) (0+1)];by_cases h:p m
  ·simp[h]
  ·simp only[h,Nat.add_zero];rw[Option.map_map];have:(fun i=>p (m+1+i))=fun i=>(fun i=>p (m+i)) (0+1+i):=(by funext i;simp;congr 1;omega)
   rw[this];congr 1;funext i;simp;omega
theorem firstIdx_eq(s:ByteArray)(c:UInt8):firstIdx s c=first s.data.toList c:=by
 have key:∀l:List UInt8,(List.range l.length).find? (fun i=>l[i]! == c)=l.findIdx? (· == c):=by
  intro l
  induction l with
  | nil=>rfl
  | cons x r ih =>
   rw[List.length_cons,List.range_eq_range',List.range'_succ,List.find?_cons,List.findIdx?_cons];by_cases h:(x==c)=true
   ·simp[h]
   ·simp only[List.getElem!_cons_zero,h];rw[find_range];have:(fun i=>(x :: r)[0+1+i]! == c)=fun i=>r[i]! == c:=(by funext i;rw[show 0+1+i=i+1 from by omega];simp)
    rw[this,←List.range_eq_range',ih];cases r.findIdx? (· == c)<;>simp;omega
 have hs:s.size=s.data.toList.length:=(by simp);have hg:(fun i:Nat=>s[i]! == c)=fun i:Nat=>s.data.toList[i]! == c:=by
  funext i;congr 1;by_cases h:i<s.size
  ·have h1:s[i]! = s[i]:=getElem!_pos s i h;have h2:s.data.toList[i]! = s.data.toList[i]:=getElem!_pos _ i (by simpa using h);rw[h1,h2];rfl
  ·rw[getElem!_neg s i h,getElem!_neg s.data.toList i (by simpa using h)]
 unfold firstIdx first
 rw[hg,hs,key];cases s.data.toList.findIdx? (· == c)<;>rfl
theorem BO(l:List UInt8)(c:UInt8):-1<=first l c/\first l c<l.length:=by
 unfold first
 split
 ·rename_i i h;have:=(List.findIdx?_eq_some_iff_findIdx_eq.1 h).1;omega
 ·omega
end yu
end Go.Proofs.YtmmmghpimdfleaaGreatDoor
