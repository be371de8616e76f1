/-
  Trees that lie apart: each row of entries in a block of its own that can be written; of no function of the program.
  append of texts to texts of the call's own.
  tree.Copy: the same tree in new memory, apart (printed out of Copy by tools/zb5.py).
  View.Get: the record got lies in memory of its own (printed out of zed and Store by tools/zcY.py).
  VW.Clone: the same tree in new memory, apart.
  pO.Twin: the same record in memory of its own (printed by tools/zcZ.py).
-/
import Derived.Test.YtmmmghpimdfleaaGreatDoorTk
import Derived.Test.YtmmmghpimdfleaaGreatDoorGrpA
import Derived.Test.YtmmmghpimdfleaaGreatDoorAppS
import Derived.Test.YtmmmghpimdfleaaGreatDoorGrpZ
import Derived.Test.YtmmmghpimdfleaaGreatDoorStock
import Derived.Test.YtmmmghpimdfleaaGreatDoorGrpM
import Derived.Test.YtmmmghpimdfleaaGreatDoorGrpO
import Derived.Test.YtmmmghpimdfleaaGreatDoorGrpP
import Derived.Test.YtmmmghpimdfleaaGreatDoorGrpQ
import Derived.Test.YtmmmghpimdfleaaGreatDoorGrpY
set_option linter.unusedVariables false
set_option maxHeartbeats 4000000
set_option linter.unusedSimpArgs false
namespace Go.Proofs.YtmmmghpimdfleaaGreatDoor
namespace Tr
open Go.RowKit Mem
/-- A block that can be written. -/
def Wr(w:World)(b:Nat):Prop:=b<w.heap.size/\∀j,w.frozen? ⟨b,j,none⟩=false
theorem Wr.kept{w w':World}{b:Nat}(h:Wr w b)(hz:w.heap.size<=w'.heap.size)(hk:w'.heap[b]? = w.heap[b]?):Wr w' b :=
 ⟨Nat.lt_of_lt_of_le h.1 hz,fun j=>by rw[World.frozen?_of_block (w:=w) hk];exact h.2 j⟩
theorem Wr.TQ{w:World}{b:Nat}{cs:Array Value}{t:TypeId}(h:Bx w b cs t):Wr w b:=⟨h.lt,fun j=>h.frozen j⟩
/-- The cells of entries from b, off on; what hangs on them lies in S, each in a part of its own. -/
def pU(w:World):Kids->(Nat->Prop)->Nat->Nat->Prop
 | .nil,_,_,_=>True
 | .cons nm k e t sub rest,S,b,off=>w.cell? ⟨b,off,none⟩=some (.string nm)/\w.cell? ⟨b,off+1,none⟩=some (.int .i64 k)/\w.cell? ⟨b,off+2,none⟩=some (.bool e)/\w.cell? ⟨b,off+3,none⟩=some (.string t) /\
  ∃S1 S2:Nat->Prop,(∀q,S1 q->S q)/\(∀q,S2 q->S q)/\(∀q,S1 q->¬S2 q) /\
   (∃ao cap,w.cell? ⟨b,off+4,none⟩=some (.slice ao sub.len cap)/\sub.len<=cap/\cap<=maxLen/\(sub = .nil∨∃b' o',ao=some ⟨b',o',none⟩/\S1 b'/\Wr w b'/\pU w sub (fun q=>S1 q/\q≠b') b' o'))/\pU w rest S2 b (off+5)
/-- A slice of entries, apart. -/
def ny(S:Nat->Prop)(w:World)(v:Value)(ks:Kids):Prop :=
 ∃ao cap,v = .slice ao ks.len cap/\ks.len<=cap/\cap<=maxLen/\(ks = .nil∨∃b off,ao=some ⟨b,off,none⟩/\S b/\Wr w b/\pU w ks (fun q=>S q/\q≠b) b off)
theorem pU.keep{w w':World}(hz:w.heap.size<=w'.heap.size):∀ {ks:Kids} {S:Nat->Prop} {b off:Nat},Ag S w w'->(∀j,off<=j->w'.cell? ⟨b,j,none⟩=w.cell? ⟨b,j,none⟩)->pU w ks S b off->pU w' ks S b off:=by
 intro ks
 induction ks with
 | nil=>intro S b off _ _ _;trivial
 | cons nm k e t sub rest JZ ihr =>
  intro S b off ha hb h;obtain⟨h0,h1,h2,h3,S1,S2,s1,s2,dj,⟨ao,cap,h4,hl,hm,hk⟩,hr⟩:=h;have c:∀ {j:Nat} {v:Value},off<=j->w.cell? ⟨b,j,none⟩=some v->w'.cell? ⟨b,j,none⟩=some v:=fun hj h=>by rw[hb _ hj];exact h
  exact⟨c (Nat.le_refl _) h0,c (by omega) h1,c (by omega) h2,c (by omega) h3,S1,S2,s1,s2,dj,⟨ao,cap,c (by omega) h4,hl,hm,hk.imp id (fun⟨b',o',e1,e2,e3,e4⟩=>⟨b',o',e1,e2,e3.kept hz (ha b' (s1 _ e2) e3.1),JZ (ha.mono fun q hq=>s1 _ hq.1) (fun j _=>World.cell?_of_block (w:=w) (ha b' (s1 _ e2) e3.1)) e4⟩)⟩,ihr (ha.mono s2) (fun j hj=>hb j (by omega)) hr⟩
theorem pU.ag{w w':World}(hz:w.heap.size<=w'.heap.size){ks:Kids}{S:Nat->Prop}{b off:Nat}(ha:Ag S w w')(hb:w'.heap[b]? = w.heap[b]?)(h:pU w ks S b off):pU w' ks S b off :=
 h.keep hz ha (fun j _=>World.cell?_of_block (w:=w) hb)
theorem pU.sub{w:World}:∀ {ks:Kids} {S S':Nat->Prop} {b off:Nat},(∀q,q<w.heap.size->S q->S' q)->pU w ks S b off->pU w ks S' b off:=by
 intro ks
 induction ks with
 | nil=>intro S S' b off _ _;trivial
 | cons nm k e t sub rest JZ ihr =>
  intro S S' b off hs h;obtain⟨h0,h1,h2,h3,S1,S2,s1,s2,dj,⟨ao,cap,h4,hl,hm,hk⟩,hr⟩:=h;exact⟨h0,h1,h2,h3,fun q=>S1 q/\q<w.heap.size,fun q=>S2 q/\q<w.heap.size,fun q hq=>hs q hq.2 (s1 q hq.1),fun q hq=>hs q hq.2 (s2 q hq.1),fun q h1 h2=>dj q h1.1 h2.1,
   ⟨ao,cap,h4,hl,hm,hk.imp id (fun⟨b',o',e1,e2,e3,e4⟩=>⟨b',o',e1,⟨e2,e3.1⟩,e3,JZ (fun q hz hq=>⟨⟨hq.1,hz⟩,hq.2⟩) e4⟩)⟩,ihr (fun q hz hq=>⟨hq,hz⟩) hr⟩
theorem ny.ag{S:Nat->Prop}{w w':World}{v:Value}{ks:Kids}(h:ny S w v ks)(hz:w.heap.size<=w'.heap.size)(ha:Ag S w w'):ny S w' v ks:=by
 obtain⟨ao,cap,hv,hl,hm,hk⟩:=h;exact⟨ao,cap,hv,hl,hm,hk.imp id (fun⟨b,o,e1,e2,e3,e4⟩=>⟨b,o,e1,e2,e3.kept hz (ha b e2 e3.1),e4.ag hz (ha.mono fun q hq=>hq.1) (ha b e2 e3.1)⟩)⟩
theorem ny.sub{S S':Nat->Prop}{w:World}{v:Value}{ks:Kids}(h:ny S w v ks)(hs:∀q,q<w.heap.size->S q->S' q):ny S' w v ks:=by
 obtain⟨ao,cap,hv,hl,hm,hk⟩:=h;exact⟨ao,cap,hv,hl,hm,hk.imp id (fun⟨b,o,e1,e2,e3,e4⟩=>⟨b,o,e1,hs b e3.1 e2,e3,e4.sub (fun q hz hq=>⟨hs q hz hq.1,hq.2⟩)⟩)⟩
theorem ny.below{S:Nat->Prop}{w w':World}{v:Value}{ks:Kids}(h:ny S w v ks)(hb:Below w.heap.size w w'):ny S w' v ks:=h.ag hb.size (Ag.of_below hb)
theorem pU.elems{S:Nat->Prop}{w:World}:∀ {ks:Kids} {S':Nat->Prop} {b off:Nat},S b->(∀q,S' q->S q)->pU w ks S' b off->gI S w ks b off:=by
 intro ks
 induction ks with
 | nil=>intro S' b off _ _ _;trivial
 | cons nm k e t sub rest JZ ihr =>
  intro S' b off hb hs h;obtain⟨h0,h1,h2,h3,S1,S2,s1,s2,dj,⟨ao,cap,h4,hl,hm,hk⟩,hr⟩:=h;exact⟨hb,h0,h1,h2,h3,⟨ao,cap,h4,hl,hm,hk.imp id (fun⟨b',o',e1,e2,e3,e4⟩=>⟨b',o',e1,JZ (hs _ (s1 _ e2)) (fun q hq=>hs _ (s1 _ hq.1)) e4⟩)⟩,ihr hb (fun q hq=>hs _ (s2 _ hq)) hr⟩
theorem ny.kids{S:Nat->Prop}{w:World}{v:Value}{ks:Kids}(h:ny S w v ks):ay S w v ks:=by
 obtain⟨ao,cap,hv,hl,hm,hk⟩:=h;exact⟨ao,cap,hv,hl,hm,hk.imp id (fun⟨b,o,e1,e2,e3,e4⟩=>⟨b,o,e1,e4.elems e2 (fun q hq=>hq.1)⟩)⟩
/-- The cells of entries one behind the other, what hangs on them apart. -/
def bV(w:World):Kids->(Nat->Prop)->List Value->Prop
 | .nil,_,xs=>xs = []
 | .cons nm k e t s r,S,xs=>∃(sv:Value) (rest:List Value) (S1 S2:Nat->Prop),xs = .string nm :: .int .i64 k :: .bool e :: .string t :: sv :: rest/\(∀q,S1 q->S q)/\(∀q,S2 q->S q)/\(∀q,S1 q->¬S2 q)/\ny S1 w sv s/\bV w r S2 rest
theorem bV.ag{w w':World}(hz:w.heap.size<=w'.heap.size):∀ {ks:Kids} {S:Nat->Prop} {xs:List Value},Ag S w w'->bV w ks S xs->bV w' ks S xs:=by
 intro ks
 induction ks with
 | nil=>intro S xs _ h;exact h
 | cons nm k e t s r _ ihr =>
  rintro S xs ha ⟨sv,rest,S1,S2,h1,s1,s2,dj,h2,h3⟩;exact⟨sv,rest,S1,S2,h1,s1,s2,dj,h2.ag hz (ha.mono s1),ihr (ha.mono s2) h3⟩
theorem bV.below{w w':World}{ks:Kids}{S:Nat->Prop}{xs:List Value}(h:bV w ks S xs)(hb:Below w.heap.size w w'):bV w' ks S xs:=h.ag hb.size (Ag.of_below hb)
theorem bV.sub{w:World}:∀ {ks:Kids} {S S':Nat->Prop} {xs:List Value},(∀q,q<w.heap.size->S q->S' q)->bV w ks S xs->bV w ks S' xs:=by
 intro ks
 induction ks with
 | nil=>intro S S' xs _ h;exact h
 | cons nm k e t s r _ ihr =>
  rintro S S' xs hs ⟨sv,rest,S1,S2,h1,s1,s2,dj,h2,h3⟩;exact⟨sv,rest,fun q=>S1 q/\q<w.heap.size,fun q=>S2 q/\q<w.heap.size,h1,fun q hq=>hs q hq.2 (s1 q hq.1),fun q hq=>hs q hq.2 (s2 q hq.1),fun q a b=>dj q a.1 b.1,h2.sub (fun q hz hq=>⟨hq,hz⟩),ihr (fun q hz hq=>⟨hq,hz⟩) h3⟩
theorem bV.snoc{w:World}{nm:ByteArray}{k:Int}{e:Bool}{t:ByteArray}{s:Kids}{sv:Value}{S':Nat->Prop}(hs:ny S' w sv s):∀ {ks:Kids} {S:Nat->Prop} {xs:List Value},(∀q,S q->¬S' q)->bV w ks S xs ->
 bV w (ks.append (.cons nm k e t s .nil)) (fun q=>S q∨S' q) (xs ++ [.string nm,.int .i64 k,.bool e,.string t,sv]):=by
 intro ks
 induction ks with
 | nil=>rintro S xs _ rfl;exact⟨sv,[],S',fun _=>False,rfl,fun q h=>.inr h,fun q h=>h.elim,fun q _ h=>h,hs,rfl⟩
 | cons Zd k' e' t' s' r _ ihr =>
  rintro S xs hd ⟨sv',rest,S1,S2,rfl,s1,s2,dj,h2,h3⟩;exact⟨sv',rest ++ [.string nm,.int .i64 k,.bool e,.string t,sv],S1,fun q=>S2 q∨S' q,rfl,fun q h=>.inl (s1 q h),fun q h=>h.imp (s2 q) id,fun q h1 h=>h.elim (dj q h1) (hd q (s1 q h1)),h2,ihr (fun q hq=>hd q (s2 q hq)) h3⟩
theorem bV.elems{w:World}{b:Nat}:∀ {ks:Kids} {S:Nat->Prop} {xs:List Value} {off:Nat},bV w ks S xs->(∀j u,xs[j]? = some u->w.cell? ⟨b,off+j,none⟩=some u)->pU w ks S b off:=by
 intro ks
 induction ks with
 | nil=>intro _ _ _ _ _;trivial
 | cons nm k e t s r _ ihr =>
  rintro S xs off ⟨sv,rest,S1,S2,rfl,s1,s2,dj,⟨ao,cap,rfl,hl,hm,hk⟩,h3⟩ hc;refine⟨by simpa using hc 0 _ rfl,hc 1 _ rfl,hc 2 _ rfl,hc 3 _ rfl,S1,S2,s1,s2,dj,⟨ao,cap,hc 4 _ rfl,hl,hm,hk⟩,ihr h3 (fun j u hj=>?_)⟩;have:=hc (5+j) u (by rw[show 5+j=j+5 by omega];exact hj);rwa[←Nat.add_assoc]at this
theorem bV.kids{S:Nat->Prop}{w:World}{B:Nat}{t:TypeId}{v:Value}{ks:Kids}{xs:List Value}(h:bV w ks S xs)(ho:w.ownsRow B t 5 v ks.len xs)(hd:∀b,v.ownBlock=some b->¬S b):ny (fun q=>S q∨v.ownBlock=some q) w v ks:=by
 rcases ho.2 with⟨rfl,h0⟩|⟨g,cap,cur,rfl,hb,hg,hn,hc,hsz,htk⟩
 ·rw[Kids.eq_nil h0];exact⟨none,0,rfl,Nat.le_refl _,by unfold maxLen;omega,.inl rfl⟩
 ·refine⟨some ⟨g,0,none⟩,cap,rfl,hn,hc,.inr ⟨g,0,rfl,.inr rfl,Wr.TQ hg,(h.elems (fun j u hj=>?_)).sub (fun q _ hq=>⟨.inl hq,fun e=>hd g rfl (e▸hq)⟩)⟩⟩;have:=World.ownsRow.cells ho (g:=g) rfl j u hj;rw[Addr.add_lit]at this;exact this
/-- Texts in a block of their own that can be written. -/
def mZ(S:Nat->Prop)(w:World)(v:Value)(l:List ByteArray):Prop :=
 ∃ao cap,v = .slice ao l.length cap/\l.length<=cap/\cap<=maxLen/\(l = []∨∃b off,ao=some ⟨b,off,none⟩/\S b/\Wr w b/\∀j (h:j<l.length),w.cell? ⟨b,off+j,none⟩=some (.string l[j]))
theorem mZ.strs{S:Nat->Prop}{w:World}{v:Value}{l:List ByteArray}(h:mZ S w v l):Strs S w v l:=by
 obtain⟨ao,cap,hv,hl,hm,hk⟩:=h;exact⟨ao,cap,hv,hl,hm,hk.imp id (fun⟨b,o,e1,e2,_,e3⟩=>⟨b,o,e1,e2,e3⟩)⟩
theorem mZ.ag{S:Nat->Prop}{w w':World}{v:Value}{l:List ByteArray}(h:mZ S w v l)(hz:w.heap.size<=w'.heap.size)(ha:Ag S w w'):mZ S w' v l:=by
 obtain⟨ao,cap,hv,hl,hm,hk⟩:=h;exact⟨ao,cap,hv,hl,hm,hk.imp id (fun⟨b,o,e1,e2,e4,e3⟩=>⟨b,o,e1,e2,e4.kept hz (ha b e2 e4.1),fun j hj=>ha.cell (p:=⟨b,o+j,none⟩) e2 (e3 j hj)⟩)⟩
theorem mZ.sub{S S':Nat->Prop}{w:World}{v:Value}{l:List ByteArray}(h:mZ S w v l)(hs:∀q,q<w.heap.size->S q->S' q):mZ S' w v l:=by
 obtain⟨ao,cap,hv,hl,hm,hk⟩:=h;exact⟨ao,cap,hv,hl,hm,hk.imp id (fun⟨b,o,e1,e2,e4,e3⟩=>⟨b,o,e1,hs b e4.1 e2,e4,e3⟩)⟩
theorem mZ.bU{w:World}{B:Nat}{e:TypeId}{v:Value}{l:List ByteArray}(h:w.ownsRow B e 1 v l.length (l.map .string)):mZ (fun b=>B<=b/\v.ownBlock=some b) w v l:=by
 rcases h.2 with⟨hv,h0⟩|⟨g,cap,cur,hv,hb,hg,hn,hc,hsz,htk⟩
 ·obtain rfl:=List.eq_nil_of_length_eq_zero h0;rw[hv];exact⟨none,0,rfl,Nat.le_refl _,by unfold maxLen;omega,.inl rfl⟩
 ·refine⟨_,cap,hv,hn,hc,.inr ⟨g,0,rfl,⟨hb,by rw[hv];rfl⟩,Wr.TQ hg,fun j hj=>?_⟩⟩;have h1:=World.ownsRow.cells h (g:=g) (by rw[hv];rfl) j (.string l[j]) (by rw[List.getElem?_map,List.getElem?_eq_getElem hj];rfl);have h2:(⟨g,0,none⟩:Addr).add j=⟨g,0+j,none⟩:=(by unfold Addr.add;split<;>simp_all);rw[h2]at h1;exact h1
/-- A record all of whose memory is its own. -/
def VX(S:Nat->Prop)(w:World)(cs:List Value)(r:Rec):Prop :=
 ∃kv rv S1 S2,cs=r.cells kv rv/\r.hash.length=32/\(∀q,S1 q->S q)/\(∀q,S2 q->S q)/\(∀q,S1 q->¬S2 q)/\ny S1 w kv r.tree.kids/\mZ S2 w rv r.refs
theorem VX.rec{S:Nat->Prop}{w:World}{cs:List Value}{r:Rec}(h:VX S w cs r):aT S w cs r:=by
 obtain⟨kv,rv,S1,S2,e,hh,s1,s2,_,hk,hr⟩:=h;exact⟨kv,rv,e,hh,hk.kids.sub (fun q _ hq=>s1 q hq),hr.strs.sub (fun q _ hq=>s2 q hq)⟩
end Tr

namespace zaR
open Go.RowKit Mem Tr St
open Go.WideShapes (add_plain)
/-- 'append(own, given...)' -/
theorem Je{w:World}{B n:Nat}{v:Value}{xs:List Value}{S:Nat->Prop}{rv:Value}{l:List ByteArray}(hown:w.ownsRow B 9 1 v n xs)(hr:Strs S w rv l)(hcap:∀n cap,rv = .slice none n cap->cap=0)(hn:n+l.length<=4194304)(hB:B<=w.heap.size) :
 ∃v' w',(Builtin.append_ #[27,27] 27 #[v,rv]).run Tryz.prog w = .ok v' w'/\w'.ownsRow B 9 1 v' (n+l.length) (xs++l.map .string)/\w.grownBy w' v.ownBlock:=by
 obtain⟨i0,hi,hz0,hz1,hz2⟩:=info_parts Make.bI;obtain⟨ao,cap,rfl,hl,hm,hk⟩:=hr;cases ao with
 | none =>
  obtain rfl:=hcap _ _ rfl;obtain rfl:l = []:=List.eq_nil_of_length_eq_zero (by omega);refine⟨v,w,run_append_owned_none (P:=Tryz.prog) w B _ _ 9 i0 1 Tryz.underlying27 hi v n xs hown,by simpa using hown,⟨rfl,rfl,rfl,Nat.le_refl _,fun _ _ _=>rfl⟩⟩
 | some ad =>
  have hnews:∀j u,(l.map Value.string)[j]? = some u->w.cell? (ad.add j)=some u:=by
   intro j u hj;have hjl:j<l.length:=(by have:=(List.getElem?_eq_some_iff.1 hj).1;simpa using this);rcases hk with rfl|⟨b,o,e1,e2,e3⟩
   ·simp at hjl
   ·cases e1
    rw[add_plain,e3 j hjl];rw[List.getElem?_map,List.getElem?_eq_getElem hjl]at hj;exact hj
  obtain⟨v',w',h1,h2,h3,_,_⟩:=run_append_own_at (P:=Tryz.prog) w B 27 27 9 i0 (.string ⟨#[]⟩) 1 16 Tryz.underlying27 hi hz0 hz1 hz2 rfl (by decide) v n xs hown ad l.length cap (l.map .string) (by simp) hnews (by intro u hu;obtain⟨x,_,rfl⟩:=List.mem_map.1 hu;rfl) (by unfold maxLen;omega) (by omega) hB;exact⟨v',w',h1,h2,h3⟩
end zaR

namespace TR
open Go.RowKit Mem Tr
open Go.Proofs.YtmmmghpimdfleaaGreatDoor.Copy (jw qP ax own_below qQ)
def Hq(w:World)(k:Int)(ex:Bool)(t:ByteArray)(ks:Tr.Kids)(e:Ending)(w':World):Prop :=
 ∃kv',e = .returned (.agg #[.int .i64 k,.bool ex,.string t,kv'])/\ny (w.heap.size<=·) w' kv' ks/\Below w.heap.size w w'
end TR

namespace zc0
open Go.RowKit Mem Tr St
open Go.Proofs.YtmmmghpimdfleaaGreatDoor.Own
end zc0

namespace Clone
open Go.RowKit Mem Tr
open Go.Proofs.YtmmmghpimdfleaaGreatDoor.Copy (jw qP ax own_below qQ)
set_option maxRecDepth 20000 in
theorem V5:∀(N:Nat) (k:Int) (ex:Bool) (t:ByteArray) (ks:Tr.Kids) (kv:Value) (S:Nat->Prop) (w:World),ks.bulk<N->ks.bulk<=4194304->ay S w kv ks ->
 Calls Tryz.prog 100 #[.agg #[.int .i64 k,.bool ex,.string t,kv]] w (TR.Hq w k ex t ks):=by
 intro N
 induction N with
 | zero=>intro k ex t ks kv S w h;omega
 | succ N ih =>
  intro k ex t ks kv S w hN hB hk;obtain⟨i0,hi,hz0,hz1,hz2⟩:=info_parts qP;obtain⟨ao,cap,rfl,hcl,hcm,hel⟩:=hk;have hlen:=ks.jD;obtain⟨n,hn⟩:∃n,ks.len=n:=⟨_,rfl⟩;rw[hn]at hcl hlen ⊢;have Hn:=yH hn;have Hel:=yH hel;have HN:=yH hN;have HB:=yH hB;have NB:=yH (show n<=600000 by omega);clear hn hel hcl hcm hlen hN hB
  go_enter Tryz.func100,Tryz.ntmps100
  go_wp2_with fail;obtain⟨w1,hw1⟩:∃W,((w.alloc (.cells #[.int .i64 k,.bool ex,.string t,.slice ao n cap] 26)).alloc (.cells #[.int .i64 0,.bool false,.string ⟨#[]⟩,.slice none 0 0] 26)).alloc (.cells #[.int .i64 k,.bool ex,.string t,.slice none 0 0] 26)=W:=⟨_,rfl⟩;rw[hw1];have x1:Bx w1 w.heap.size #[.int .i64 k,.bool ex,.string t,.slice ao n cap] 26:=(by rw[←hw1];exact((Bx.new w _ _).alloc _).alloc _);have y1:Bx w1 (w.heap.size+1) #[.int .i64 0,.bool false,.string ⟨#[]⟩,.slice none 0 0] 26:=by
   have:=Bx.new (w.alloc (.cells #[.int .i64 k,.bool ex,.string t,.slice ao n cap] 26)) #[.int .i64 0,.bool false,.string ⟨#[]⟩,.slice none 0 0] 26;rw[World.size_alloc]at this;rw[←hw1];exact this.alloc _
  have z1:Bx w1 (w.heap.size+2) #[.int .i64 k,.bool ex,.string t,.slice none 0 0] 26:=(by have:=Bx.new ((w.alloc (.cells #[.int .i64 k,.bool ex,.string t,.slice ao n cap] 26)).alloc (.cells #[.int .i64 0,.bool false,.string ⟨#[]⟩,.slice none 0 0] 26)) #[.int .i64 k,.bool ex,.string t,.slice none 0 0] 26;rw[World.size_alloc,World.size_alloc]at this;rw[←hw1];exact this);have B1:Below w.heap.size w w1:=(by rw[←hw1];exact(((Below.refl _ w).alloc (Nat.le_refl _) _).alloc (by simp) _).alloc (by simp;omega) _);have s1:w.heap.size+3<=w1.heap.size:=z1.lt;have X1:=yH x1;have Y1:=yH y1;have Z1:=yH z1;have S1:=yH s1;clear hw1 x1 y1 z1 s1
  go_loopw [4,5] (fun i _ wr=>∃j:Nat,j<=n/\i = .int .i64 j/\Below w.heap.size w wr/\Hid (Bx wr w.heap.size #[.int .i64 k,.bool ex,.string t,.slice ao n cap] 26)/\Hid (Bx wr (w.heap.size+1) #[.int .i64 0,.bool false,.string ⟨#[]⟩,.slice none 0 0] 26)/\Hid (∃v xs,Bx wr (w.heap.size+2) #[.int .i64 k,.bool ex,.string t,v] 26/\wr.ownsRow (w.heap.size+3) 116 5 v j xs/\bV wr (ks.take j) (fun b=>w.heap.size+3<=b/\b<wr.heap.size/\v.ownBlock≠some b) xs)) (fun i _ _=>n-(intOf i).toNat)
  case atStart=>exact⟨0,Nat.zero_le _,rfl,B1,X1,Y1,yH ⟨_,[],Z1.out,World.ownsRow_nil _ _ _ _,by rw[Tr.Kids.take_zero];rfl⟩⟩
  case round =>
   obtain⟨j,hj,rfl,br,xr,yr,hrow⟩:=hrel;obtain⟨v,xs,zr0,hown0,hrow0⟩:=hrow.out;have ZR:=yH zr0;have HOWN:=yH hown0;have jE:=yH hrow0;clear hrow zr0 hown0 hrow0;have a3:wr.cell? ⟨w.heap.size,3,none⟩=some (.slice ao n cap):=xr.out.cell 3;have e0:(0:Int)<=(j:Int):=Int.natCast_nonneg _;by_cases hlt:j<n
   ·rcases Hel.out with h0|⟨sb,off,rfl,hel⟩
    ·rw[h0]at Hn;have:=Hn.out;simp[Tr.Kids.len]at this;omega
    have iF:=hel.below br;obtain⟨nm,kd,fQ,tx,sub,r,dL,cap2,hd0,hd1,hSb,g0,g1,g2,g3,g4,hsub,hbk⟩:=iF.at' (j:=j) (by rw[Hn.out];exact hlt);have e1:(j:Int)<(n:Int):=(by omega);have HD:=yH (ks.take_succ j hd0);have hsb:sub.bulk<N/\sub.bulk<=4194304:=(by have:=HN.out;have:=HB.out;omega);have HS:=yH hsub;have G0:=yH g0;have hsb0:sb<w.heap.size:=(by obtain⟨_,_,_,_,_,_,_,_,_,_,_,q0,_⟩:=hel.at' (j:=j) (by rw[Hn.out];exact hlt);exact World.block_lt_of_cell? w _ q0);clear hd0 hd1 hel iF hbk hsub
    go_wp2_with fail;refine(ih kd fQ tx sub (.slice dL sub.len cap2) S wr hsb.1 hsb.2 HS.out).mono ?_;rintro e9 w3 ⟨kv',rfl,hk3,b3⟩;have HK3:=yH hk3;obtain⟨a5,c5,rfl,_,_,_⟩:=hk3;clear a3 g0 g1 g2 g3 g4
    go_wp2_with fail;obtain⟨w4,hw4⟩:∃W,w3.alloc (.cells #[.int .i64 kd,.bool fQ,.string tx,.slice a5 sub.len c5] 26)=W:=⟨_,rfl⟩;rw[hw4];obtain⟨bb4,x4⟩:=af hw4;clear hw4;have V6:Below wr.heap.size wr w4:=b3.trans (bb4.mono b3.size);have X4:=yH x4;have XR4:=yH (xr.out.below V6);have YR4:=yH (yr.out.below V6);have ZR4:=yH (ZR.out.below V6);have zaS:=yH (own_below HOWN.out V6);have zc1:=yH (jE.out.below V6);have HK4:=yH (HK3.out.below bb4);have hone:∀u∈[Value.string nm,.int .i64 kd,.bool fQ,.string tx,.slice a5 sub.len c5],u.oneCell'=true:=qQ HK4.out.kids;have SZ:=yH (show w.heap.size+3<=wr.heap.size/\wr.heap.size<=w3.heap.size/\w3.heap.size<w4.heap.size from⟨ZR.out.lt,b3.size,x4.lt⟩);have gn:w4.cell? ⟨sb,off+j*5,none⟩=some (.string nm):=(by rw[V6.cell (p:=⟨sb,off+j*5,none⟩) (World.block_lt_of_cell? wr _ G0.out)];exact G0.out);have hS4:∀w',Below w4.heap.size w4 w'->w'.cell? ⟨w.heap.size,3,none⟩=some (.slice (some ⟨sb,off,none⟩) n cap)/\w'.cell? ⟨sb,off+j*5,none⟩=some (.string nm)/\w'.cell? ⟨w3.heap.size,0,none⟩=some (.int .i64 kd)/\w'.cell? ⟨w3.heap.size,1,none⟩=some (.bool fQ)/\w'.cell? ⟨w3.heap.size,2,none⟩=some (.string tx)/\w'.cell? ⟨w3.heap.size,3,none⟩=some (.slice a5 sub.len c5):=fun w' hb=>by
     have h1:=XR4.out.below hb;have h2:=X4.out.below hb;exact⟨h1.cell 3,by rw[hb.cell (p:=⟨sb,off+j*5,none⟩) (World.block_lt_of_cell? w4 _ gn)];exact gn,h2.cell 0,h2.cell 1,h2.cell 2,h2.cell 3⟩
    have hS0:=hS4 w4.drew (Below.refl _ w4).drew;have QI:∀w':World,w'.heap[w.heap.size]? = w4.heap[w.heap.size]?->w'.heap[sb]? = w4.heap[sb]?->w'.heap[w3.heap.size]? = w4.heap[w3.heap.size]?->w'.cell? ⟨w.heap.size,3,none⟩=some (.slice (some ⟨sb,off,none⟩) n cap)/\w'.cell? ⟨sb,off+j*5,none⟩=some (.string nm)/\w'.cell? ⟨w3.heap.size,0,none⟩=some (.int .i64 kd)/\w'.cell? ⟨w3.heap.size,1,none⟩=some (.bool fQ)/\w'.cell? ⟨w3.heap.size,2,none⟩=some (.string tx)/\w'.cell? ⟨w3.heap.size,3,none⟩=some (.slice a5 sub.len c5):=fun w' q1 q2 q3=>by
     have h1:=XR4.out.kept q1;have h2:=X4.out.kept q3;exact⟨h1.cell 3,by rw[World.cell?_of_block (w:=w4) (a:=⟨sb,off+j*5,none⟩) q2];exact gn,h2.cell 0,h2.cell 1,h2.cell 2,h2.cell 3⟩
    have hv0:w4.drew.cell? ⟨w.heap.size+1+1,3,none⟩=some v:=ZR4.out.cell 3;have hv1:∀o,(w4.drew.alloc o).cell? ⟨w.heap.size+1+1,3,none⟩=some v:=fun o=>Lib.cell?_alloc_some o hv0
    have hS1:∀o,(fun w'=>w'.cell? ⟨w.heap.size,3,none⟩=some (.slice (some ⟨sb,off,none⟩) n cap)/\w'.cell? ⟨sb,off+j*5,none⟩=some (.string nm)/\w'.cell? ⟨w3.heap.size,0,none⟩=some (.int .i64 kd)/\w'.cell? ⟨w3.heap.size,1,none⟩=some (.bool fQ)/\w'.cell? ⟨w3.heap.size,2,none⟩=some (.string tx)/\w'.cell? ⟨w3.heap.size,3,none⟩=some (.slice a5 sub.len c5)) (w4.drew.alloc o):=fun o=>hS4 _ ((Below.refl _ w4).drew.alloc (Nat.le_refl _) o)
    have sQ:=yH (show ∀(w5:World) (gg cap3:Nat),w5.ownsRow (w.heap.size+3) 116 5 (.slice (some ⟨gg,0,none⟩) (j+1) cap3) (j+1) (xs ++ [.string nm,.int .i64 kd,.bool fQ,.string tx,.slice a5 sub.len c5])->(w4.drew.alloc (.cells #[.string nm,.int .i64 kd,.bool fQ,.string tx,.slice a5 sub.len c5] 116)).grownBy w5 v.ownBlock->(v.ownBlock=some gg∨gg=(w4.drew.alloc (.cells #[.string nm,.int .i64 kd,.bool fQ,.string tx,.slice a5 sub.len c5] 116)).heap.size)->Hid (w4=w4) ->
     Hid ((w5.cell? ⟨w.heap.size+1+1,3,none⟩=some v/\w5.frozen? ⟨w.heap.size+1+1,3,none⟩=false)/\(fun w'=>w'.cell? ⟨w.heap.size,3,none⟩=some (.slice (some ⟨sb,off,none⟩) n cap)/\w'.cell? ⟨sb,off+j*5,none⟩=some (.string nm)/\w'.cell? ⟨w3.heap.size,0,none⟩=some (.int .i64 kd)/\w'.cell? ⟨w3.heap.size,1,none⟩=some (.bool fQ)/\w'.cell? ⟨w3.heap.size,2,none⟩=some (.string tx)/\w'.cell? ⟨w3.heap.size,3,none⟩=some (.slice a5 sub.len c5)) w5/\(∀u,(fun w'=>w'.cell? ⟨w.heap.size,3,none⟩=some (.slice (some ⟨sb,off,none⟩) n cap)/\w'.cell? ⟨sb,off+j*5,none⟩=some (.string nm)/\w'.cell? ⟨w3.heap.size,0,none⟩=some (.int .i64 kd)/\w'.cell? ⟨w3.heap.size,1,none⟩=some (.bool fQ)/\w'.cell? ⟨w3.heap.size,2,none⟩=some (.string tx)/\w'.cell? ⟨w3.heap.size,3,none⟩=some (.slice a5 sub.len c5)) (w5.setCell ⟨w.heap.size+1+1,3,none⟩ u))/\(fun W=>Below w.heap.size w W/\Bx W w.heap.size #[.int .i64 k,.bool ex,.string t,.slice (some ⟨sb,off,none⟩) n cap] 26/\Bx W (w.heap.size+1) #[.int .i64 0,.bool false,.string ⟨#[]⟩,.slice none 0 0] 26/\Bx W (w.heap.size+2) #[.int .i64 k,.bool ex,.string t,.slice (some ⟨gg,0,none⟩) (j+1) cap3] 26/\W.ownsRow (w.heap.size+3) 116 5 (.slice (some ⟨gg,0,none⟩) (j+1) cap3) (j+1) (xs ++ [.string nm,.int .i64 kd,.bool fQ,.string tx,.slice a5 sub.len c5])/\bV W ((ks.take j).append (.cons nm kd fQ tx sub .nil)) (fun b=>w.heap.size+3<=b/\b<W.heap.size/\(Value.slice (some ⟨gg,0,none⟩) (j+1) cap3).ownBlock≠some b) (xs ++ [.string nm,.int .i64 kd,.bool fQ,.string tx,.slice a5 sub.len c5])) (w5.setCell ⟨w.heap.size+1+1,3,none⟩ (.slice (some ⟨gg,0,none⟩) (j+1) cap3)))from by
     intro w5 gg cap3 hown5 cu uJ _;have zz:=SZ.out;have hlt3:∀b,v.ownBlock=some b->w.heap.size+3<=b/\b<wr.heap.size:=fun b hb=>HOWN.out.lt b hb
     have hkeep:∀q,q<w4.heap.size->v.ownBlock≠some q->w5.heap[q]? = w4.heap[q]?:=fun q hq hn=>(cu.block q (by simp;omega) (fun e=>hn e.symm)).trans (Below.heap_alloc w4.drew _ q hq)
     have hbig:∀b,v.ownBlock=some b->w.heap.size+3<=b/\b<w3.heap.size:=fun b hb=>⟨(hlt3 b hb).1,by have:=(hlt3 b hb).2;omega⟩
     have n0:v.ownBlock≠some w.heap.size:=fun e=>by have:=(hbig _ e).1;omega
     have n1:v.ownBlock≠some (w.heap.size+1):=fun e=>by have:=(hbig _ e).1;omega
     have n2:v.ownBlock≠some (w.heap.size+2):=fun e=>by have:=(hbig _ e).1;omega
     have n3:v.ownBlock≠some sb:=fun e=>by have:=(hbig _ e).1;omega
     have n4:v.ownBlock≠some w3.heap.size:=fun e=>by have:=(hbig _ e).2;omega
     have x5:=ZR4.out.kept (hkeep _ (by omega) n2);have hset:∀u q,q≠w.heap.size+2->(w5.setCell ⟨w.heap.size+1+1,3,none⟩ u).heap[q]? = w5.heap[q]?:=fun u q hq=>Below.heap_setCell w5 _ u q (fun e=>hq (by rw[e]))
     have s5:=cu.size;have s5':w4.heap.size+1<=w5.heap.size:=(by simpa using s5);refine yH ⟨⟨x5.cell 3,x5.frozen 3⟩,QI w5 (hkeep _ (by omega) n0) (hkeep _ (by omega) n3) (hkeep _ (by omega) n4),fun u=>QI _ ((hset u _ (by omega)).trans (hkeep _ (by omega) n0)) ((hset u _ (by omega)).trans (hkeep _ (by omega) n3)) ((hset u _ (by omega)).trans (hkeep _ (by omega) n4)),?_⟩;have TS:Ag (fun b=>v.ownBlock≠some b) w4 w5:=fun q hs hq=>hkeep q hq hs
     have CX:∀b,b<w4.heap.size->v.ownBlock≠some b->b≠gg:=fun b hb hu e=>by
      subst e;rcases uJ with h|h
      ·exact hu h
      ·simp at h;omega
     have hgg:w.heap.size+3<=gg:=by
      rcases uJ with h|h
      ·exact(hlt3 gg h).1
      ·simp at h;omega
     have QJ:Kp (fun b=>b=w.heap.size+2) w5 (w5.setCell ⟨w.heap.size+1+1,3,none⟩ (.slice (some ⟨gg,0,none⟩) (j+1) cap3)):=(Kp.refl (fun b=>b=w.heap.size+2) w5).setCell _ _ (fun _=>rfl);have B4:Below w.heap.size w w4:=br.trans (V6.mono br.size);have b45:Below w.heap.size w4 w5:=(((Below.refl _ w4).drew).alloc (show w.heap.size<=w4.heap.size by omega) _).grown cu (by simp;omega) (fun q hq=>by have:=(hlt3 q hq).1;omega);have B5:Below w.heap.size w w5:=B4.trans b45;have r3:=(zc1.out.sub (S':=fun b=>(w.heap.size+3<=b/\b<wr.heap.size/\b≠gg)/\v.ownBlock≠some b) (fun q hq hs=>⟨⟨hs.1,hs.2.1,CX q hq hs.2.2⟩,hs.2.2⟩)).ag (by omega) (TS.mono (fun q hq=>hq.2));have k3:=(HK4.out.sub (S':=fun b=>(wr.heap.size<=b/\b≠gg)/\v.ownBlock≠some b) (fun q hq (hs:wr.heap.size<=q)=>by
      have hu:v.ownBlock≠some q:=fun e=>by have:=(hlt3 q e).2;omega
      exact⟨⟨hs,CX q hq hu⟩,hu⟩)).ag (by omega) (TS.mono (fun q hq=>hq.2))
     have r5:=(bV.snoc (nm:=nm) (k:=kd) (e:=fQ) (t:=tx) k3 (fun q hq hq2=>by have:=hq.1.2.1;have:=hq2.1.1;omega) r3).sub (S':=fun b=>w.heap.size+3<=b/\b<w5.heap.size/\(Value.slice (some ⟨gg,0,none⟩) (j+1) cap3).ownBlock≠some b) (fun q hq hs=>by
      refine⟨?_,hq,fun e=>?_⟩
      ·rcases hs with hs|hs
       ·exact hs.1.1
       ·have:=hs.1.1;omega
      ·have e':gg=q:=(by simpa[Value.ownBlock]using e);rcases hs with hs|hs
       ·exact hs.1.2.2 e'.symm
       ·exact hs.1.2 e'.symm)
     refine⟨B5.trans (QJ.below B5.size (fun i hi e=>by omega)),(XR4.out.kept (hkeep _ (by omega) n0)).kept (hset _ _ (by omega)),(YR4.out.kept (hkeep _ (by omega) n1)).kept (hset _ _ (by omega)),?_,Tab.aN hown5 QJ (fun b hb e=>?_),?_⟩
     ·have:=x5.set 3 (.slice (some ⟨gg,0,none⟩) (j+1) cap3)
      simpa using this
     ·have e':gg=b:=(by simpa[Value.ownBlock]using hb);omega
     ·have:=r5.ag QJ.size (Ag.bg QJ (fun q _ hq e=>by have:=hq.1;omega))
      simpa using this)
    clear x4 bb4 b3 gn;refine wp_region_held_drew (S:=fun w'=>w'.cell? ⟨w.heap.size,3,none⟩=some (.slice (some ⟨sb,off,none⟩) n cap)/\w'.cell? ⟨sb,off+j*5,none⟩=some (.string nm)/\w'.cell? ⟨w3.heap.size,0,none⟩=some (.int .i64 kd)/\w'.cell? ⟨w3.heap.size,1,none⟩=some (.bool fQ)/\w'.cell? ⟨w3.heap.size,2,none⟩=some (.string tx)/\w'.cell? ⟨w3.heap.size,3,none⟩=some (.slice a5 sub.len c5)) (by kernel_rfl) hS0 (fun hHeld=>?_);refine yT 0 ?_;refine yT 2 ?_;refine yT 3 ?_;refine yT 4 ?_;refine yT 5 ?_;refine yT 6 ?_;refine yT 7 ?_;refine yT 8 ?_;refine yT 9 ?_;refine wpAnyH_ready (rs:=[1,10]) (by kernel_rfl) (by simp) ?_;refine(AllReadyH.cons rfl (fun K hK=>?Ae) (AllReadyH.cons rfl (fun K hK=>?Af) AllReadyH.nil))
    case Ae =>
     go_simp;refine hK.out _ _ hS0 (fun hHeld=>?_);clear hK K;refine yR 10 (fun K hK=>?_)
     go_simp
     change K _ ((w4.drew).alloc (.cells #[.string nm,.int .i64 kd,.bool fQ,.string tx,.slice a5 sub.len c5] 116))
     refine hK.out _ _ (hS1 _) (fun hHeld=>?_);clear hK K;refine yR 11 (fun K hK=>?_);refine step_append_lies _ rfl _ _ 24 rfl (w.heap.size+3) 116 i0 jw 5 72 Tryz.underlying24 hi hz0 hz1 hz2 rfl (by omega) v j xs rfl (World.ownsRow.alloc (w:=w4.drew) zaS.out _) ⟨w4.heap.size,0,none⟩ 1 1 [.string nm,.int .i64 kd,.bool fQ,.string tx,.slice a5 sub.len c5] rfl rfl (World.news_of_block (cs:=#[.string nm,.int .i64 kd,.bool fQ,.string tx,.slice a5 sub.len c5]) (t:=116) (fr:=(0,0)) (heap_alloc_new w4.drew _)) hone (by omega) (by have:=NB.out;unfold maxLen;omega) (by have:=NB.out;omega) (by have:=SZ.out;simp;omega) _ rfl ?_;intro gg cap3 w5 hown5 cu uJ Nh;have hF:=sQ.out w5 gg cap3 hown5 cu uJ (yH rfl);have hF1:=hF.out.1;have hv5:=hF1.1;have hf5:=hF1.2;refine hK.out _ _ (hF.out.2.1) (fun hHeld=>?_);clear hK K;refine yT 12 ?_;refine yR 13 (fun K hK=>?_)
     go_simp;refine hK.out _ _ (hF.out.2.2.1 _) (fun hHeld=>?_);clear hK K;refine wpAnyH_done (by kernel_rfl) ?_ _;clear hHeld
     try simp only[List.getElem_toArray,List.getElem_cons_zero,List.getElem_cons_succ,List.set_cons_zero,List.set_cons_succ,List.setIfInBounds_toArray]
     have HFF:=yH hF.out.2.2.2;clear hv5 hf5 hF1 hF hown5 cu uJ Nh sQ hv0 hv1 hS0 hS1 hS4 QI;generalize w5.setCell ⟨w.heap.size+1+1,3,none⟩ (.slice (some ⟨gg,0,none⟩) (j+1) cap3)=W at HFF ⊢
     go_wp2_with fail;have nb:=NB.out
     go_roundw
     case rel =>
      obtain⟨f1,f2,f3,f4,f5,f6⟩:=HFF.out;exact⟨j+1,by omega,by rw[Go.IntWalk.wrap64_in _ (by omega)];go_num,f1,yH f2,yH f3,yH ⟨_,_,f4,f5,by rw[HD.out];exact f6⟩⟩
     case measure=>rw[Go.IntWalk.wrap64_in _ (by omega)];simp[intOf];omega
    case Af =>
     go_simp
     change K _ ((w4.drew).alloc (.cells #[.string nm,.int .i64 kd,.bool fQ,.string tx,.slice a5 sub.len c5] 116))
     refine hK.out _ _ (hS1 _) (fun hHeld=>?_);clear hK K;refine yR 1 (fun K hK=>?_);have hvW:=hv1 (.cells #[.string nm,.int .i64 kd,.bool fQ,.string tx,.slice a5 sub.len c5] 116);have hsW:=hS1 (.cells #[.string nm,.int .i64 kd,.bool fQ,.string tx,.slice a5 sub.len c5] 116);obtain⟨W9,ug⟩:∃W,(w4.drew).alloc (.cells #[.string nm,.int .i64 kd,.bool fQ,.string tx,.slice a5 sub.len c5] 116)=W:=⟨_,rfl⟩;rw[ug]at hvW hsW ⊢
     go_simp;refine hK.out _ _ hsW (fun hHeld=>?_);clear hK K;subst ug;refine yR 11 (fun K hK=>?_);refine step_append_lies _ rfl _ _ 24 rfl (w.heap.size+3) 116 i0 jw 5 72 Tryz.underlying24 hi hz0 hz1 hz2 rfl (by omega) v j xs rfl (World.ownsRow.alloc (w:=w4.drew) zaS.out _) ⟨w4.heap.size,0,none⟩ 1 1 [.string nm,.int .i64 kd,.bool fQ,.string tx,.slice a5 sub.len c5] rfl rfl (World.news_of_block (cs:=#[.string nm,.int .i64 kd,.bool fQ,.string tx,.slice a5 sub.len c5]) (t:=116) (fr:=(0,0)) (heap_alloc_new w4.drew _)) hone (by omega) (by have:=NB.out;unfold maxLen;omega) (by have:=NB.out;omega) (by have:=SZ.out;simp;omega) _ rfl ?_;intro gg cap3 w5 hown5 cu uJ Nh;have hF:=sQ.out w5 gg cap3 hown5 cu uJ (yH rfl);have hF1:=hF.out.1;have hv5:=hF1.1;have hf5:=hF1.2;refine hK.out _ _ (hF.out.2.1) (fun hHeld=>?_);clear hK K;refine yT 12 ?_;refine yR 13 (fun K hK=>?_)
     go_simp;refine hK.out _ _ (hF.out.2.2.1 _) (fun hHeld=>?_);clear hK K;refine wpAnyH_done (by kernel_rfl) ?_ _;clear hHeld
     try simp only[List.getElem_toArray,List.getElem_cons_zero,List.getElem_cons_succ,List.set_cons_zero,List.set_cons_succ,List.setIfInBounds_toArray]
     have HFF:=yH hF.out.2.2.2;clear hv5 hf5 hF1 hF hown5 cu uJ Nh sQ hv0 hv1 hS0 hS1 hS4 QI;generalize w5.setCell ⟨w.heap.size+1+1,3,none⟩ (.slice (some ⟨gg,0,none⟩) (j+1) cap3)=W at HFF ⊢
     go_wp2_with fail;have nb:=NB.out
     go_roundw
     case rel =>
      obtain⟨f1,f2,f3,f4,f5,f6⟩:=HFF.out;exact⟨j+1,by omega,by rw[Go.IntWalk.wrap64_in _ (by omega)];go_num,f1,yH f2,yH f3,yH ⟨_,_,f4,f5,by rw[HD.out];exact f6⟩⟩
     case measure=>rw[Go.IntWalk.wrap64_in _ (by omega)];simp[intOf];omega
   ·obtain rfl:j=n:=(by omega);obtain⟨a3',c3,hv3⟩:∃a c,v = .slice a j c:=by
     rcases HOWN.out.2 with⟨h,h0⟩|⟨g,cp,cur,h,_⟩
     ·exact⟨none,0,by rw[h,h0]⟩
     ·exact⟨_,_,h⟩
    subst hv3;rw[Tr.Kids.jL ks j (by rw[Hn.out];exact Nat.le_refl _)]at jE;have c0:wr.cell? ⟨w.heap.size+1+1,0,none⟩=some (.int .i64 k):=ZR.out.cell 0;have c1:wr.cell? ⟨w.heap.size+1+1,1,none⟩=some (.bool ex):=ZR.out.cell 1;have c2:wr.cell? ⟨w.heap.size+1+1,2,none⟩=some (.string t):=ZR.out.cell 2;have c4:wr.cell? ⟨w.heap.size+1+1,3,none⟩=some (.slice a3' j c3):=ZR.out.cell 3;have d0:wr.cell? ⟨w.heap.size+1,0,none⟩=some (.int .i64 0):=yr.out.cell 0;have d1:wr.cell? ⟨w.heap.size+1,1,none⟩=some (.bool false):=yr.out.cell 1;have d2:wr.cell? ⟨w.heap.size+1,2,none⟩=some (.string ⟨#[]⟩):=yr.out.cell 2;have d3:wr.cell? ⟨w.heap.size+1,3,none⟩=some (.slice none 0 0):=yr.out.cell 3;have g0:=yr.out.frozen 0;have g1:=yr.out.frozen 1;have g2:=yr.out.frozen 2;have g3:=yr.out.frozen 3
    go_wp2_with fail;obtain⟨W,hW⟩:∃W,(((wr.setCell ⟨w.heap.size+1,0,none⟩ (.int .i64 k)).setCell ⟨w.heap.size+1,1,none⟩ (.bool ex)).setCell ⟨w.heap.size+1,2,none⟩ (.string t)).setCell ⟨w.heap.size+1,3,none⟩ (.slice a3' j c3)=W:=⟨_,rfl⟩;rw[hW];have yf:Bx W (w.heap.size+1) #[.int .i64 k,.bool ex,.string t,.slice a3' j c3] 26:=by
     have:=(((yr.out.set 0 (.int .i64 k)).set 1 (.bool ex)).set 2 (.string t)).set 3 (.slice a3' j c3);rw[hW]at this
     simpa using this
    have kf:Kp (fun b=>b=w.heap.size+1) wr W:=(by rw[←hW];exact((((Kp.refl (fun b=>b=w.heap.size+1) wr).setCell ⟨w.heap.size+1,0,none⟩ _ (fun _=>rfl)).setCell ⟨w.heap.size+1,1,none⟩ _ (fun _=>rfl)).setCell ⟨w.heap.size+1,2,none⟩ _ (fun _=>rfl)).setCell ⟨w.heap.size+1,3,none⟩ _ (fun _=>rfl));clear hW;have hlv:=run_loadVar_mid (P:=Tryz.prog) W (w.heap.size+1) 0 26 [.int .i64 k,.bool ex,.string t,.slice a3' j c3] _ yf.range Tryz.underlying26 rfl (by kernel_rfl);refine bodyPost_ret (v:=.agg #[.int .i64 k,.bool ex,.string t,.slice a3' j c3]) (ai Tryz.results100 rfl hlv) rfl ⟨_,rfl,?_,?_⟩
    ·have hr:=jE.out.ag kf.size (Ag.bg kf (fun q _ hq h=>by have:=hq.1;omega));have ho:=Tab.aN HOWN.out kf (fun b hb h=>by have:=(HOWN.out.lt b hb).1;omega);exact(bV.kids (B:=w.heap.size+3) hr (by rw[Hn.out];exact ho) (fun b hb h=>h.2.2 hb)).sub (S':=(w.heap.size<=·)) (fun q _ hq=>by
      show w.heap.size<=q;rcases hq with hq|hq
      ·have:=hq.1;omega
      ·have:=(HOWN.out.lt q hq).1;omega)
    ·exact br.trans (kf.below br.size (fun i hi h=>by omega))
theorem V9(S:Nat->Prop)(T:Tree)(kv:Value)(w:World)(hk:ay S w kv T.kids)(hb:T.bulk<=4194304) :
 Calls Tryz.prog 100 #[Sum.iw T kv] w fun e w'=>∃kv',e = .returned (Sum.iw T kv')/\ny (w.heap.size<=·) w' kv' T.kids/\Below w.heap.size w w':=by
 obtain⟨k,ex,t,ks⟩:=T;exact V5 _ k ex t ks kv S w (Nat.lt_succ_self _) (by simp only[Tree.bulk]at hb;omega) hk
end Clone

namespace Twin
open Go.RowKit Mem Tr St
open Go.Proofs.YtmmmghpimdfleaaGreatDoor.Own
/-- the record ahead of its tree and its references -/
def bare(r:Rec):Rec:={ r with tree:=⟨0,false,⟨#[]⟩,.nil⟩,refs:=[] }
theorem QK{w:World}{b:Nat}{r:Rec}{T:Tree}{kv kv' rv:Value}(h:RB w b r kv rv):RB ((((w.setCell ⟨b,1,none⟩ (.int .i64 T.kind)).setCell ⟨b,2,none⟩ (.bool T.exec)).setCell ⟨b,3,none⟩ (.string T.text)).setCell ⟨b,4,none⟩ kv') b { r with tree:=T } kv' rv:=by
 refine⟨?_,h.hl⟩;have:=(((h.bx.set 1 (.int .i64 T.kind)).set 2 (.bool T.exec)).set 3 (.string T.text)).set 4 kv';unfold Rec.cells at *
 simpa using this
theorem FB{w:World}{b:Nat}(v1 v2 v3 v4:Value):Kp (fun q=>q=b) w ((((w.setCell ⟨b,1,none⟩ v1).setCell ⟨b,2,none⟩ v2).setCell ⟨b,3,none⟩ v3).setCell ⟨b,4,none⟩ v4) :=
 ((((Kp.refl (fun q=>q=b) w).setCell ⟨b,1,none⟩ _ (fun _=>rfl)).setCell ⟨b,2,none⟩ _ (fun _=>rfl)).setCell ⟨b,3,none⟩ _ (fun _=>rfl)).setCell ⟨b,4,none⟩ _ (fun _=>rfl)

section
variable {P : Program}
theorem wpList_append_run{ops:Array Oper}{rest:List Oper}{o:Oper}{a:Act}{w:World}{Q:Exit->Act->World->Prop}(hg:o.guard=none)(s x:Operand)(t:TypeId)(hop:o.op = .call { callee:=.builtin .append,args:=#[s,x],argTypes:=#[t,t] })
 (v u v':Value) (w':World) (hs:a.eval s=v) (hx:a.eval x=u) (hrun:(Builtin.append_ #[t,t] o.type #[v,u]).run P w = .ok v' w') (h:wpList P ops Q rest (a.put o.dst v') w'):wpList P ops Q (o :: rest) a w :=
 wpList_step fun K hK=>Iy.mQ hg s x t hop v u v' w' hs hx hrun (hK _ _ h)
end
set_option maxRecDepth 20000 in
theorem zaM(S:Nat->Prop)(r:Rec)(cs:List Value)(w:World)(h:aT S w cs r)(hcap:∀kv n cap,cs=r.cells kv (.slice none n cap)->cap=0)(hb:r.bulk<=2097152) :
 Calls Tryz.prog 56 #[.agg cs.toArray] w fun e w'=>∃cs',e = .returned (.agg cs'.toArray)/\VX (w.heap.size<=·) w' cs' r/\Below w.heap.size w w':=by
 have hl:=h.length;obtain⟨kv,rv,hcs,hh,hk,hr⟩:=h;have HCAP:=yH (show ∀n cap,rv = .slice none n cap->cap=0 from fun n cap e=>hcap kv n cap (by rw[hcs,e]));have HK:=yH hk;have HR:=yH hr;have wG:=yH hcs;obtain⟨ao,cap,rfl,_,_,_⟩:=hk;obtain⟨dL,cap2,rfl,_,_,_⟩:=hr;obtain⟨q0,q1,q2,q3,q4,q5⟩:=fJ hcs.symm hl hh;have q38:=qU hcs.symm hl hh;have F:=aQ (w:=w) (z:=cs.toArray) (z2:=Ins.ah.cells) (t:=31) (t2:=31) rfl;have XA:Hid (RB _ w.heap.size r (.slice ao r.tree.kids.len cap) (.slice dL r.refs.length cap2)):=yH ⟨by rw[←wG.out];exact F.2.1,hh⟩;have YA:=yH F.2.2;have BW:=yH F.1;have r1:=XA.out.hash;obtain⟨RA,Ht⟩:∃RC,Lib.byteCells r.hash=RC:=⟨_,rfl⟩;have wM:RA.length=32:=(by rw[←Ht,Lib.byteCells_length,hh]);have zc2:∀v∈RA,v.oneCell'=true:=(by rw[←Ht];exact oI _);rw[Ht]at r1;have hu:=Tryz.underlying29;have hf2:(List.foldl (fun(a:Array Value) (x:Value × Nat)=>a.setIfInBounds (6+x.snd) x.fst) #[Value.string r.path,.int .i64 0,.bool false,.string ⟨#[]⟩,.slice none 0 0,.slice none 0 0,.int .u8 0,.int .u8 0,.int .u8 0,.int .u8 0,.int .u8 0,.int .u8 0,.int .u8 0,.int .u8 0,.int .u8 0,.int .u8 0,.int .u8 0,.int .u8 0,.int .u8 0,.int .u8 0,.int .u8 0,.int .u8 0,.int .u8 0,.int .u8 0,.int .u8 0,.int .u8 0,.int .u8 0,.int .u8 0,.int .u8 0,.int .u8 0,.int .u8 0,.int .u8 0,.int .u8 0,.int .u8 0,.int .u8 0,.int .u8 0,.int .u8 0,.int .u8 0,.int .i64 0] RA.zipIdx).setIfInBounds 38 (.int .i64 r.size)=_:=Hu (.string r.path) (.int .i64 0) (.bool false) (.string ⟨#[]⟩) (.slice none 0 0) (.slice none 0 0) (.int .i64 0) (.int .i64 r.size) (List.replicate 32 (.int .u8 0)) RA wM rfl;have hsz:(List.foldl (fun(a:Array Value) (x:Value × Nat)=>a.setIfInBounds (6+x.snd) x.fst) #[Value.string r.path,.int .i64 0,.bool false,.string ⟨#[]⟩,.slice none 0 0,.slice none 0 0,.int .u8 0,.int .u8 0,.int .u8 0,.int .u8 0,.int .u8 0,.int .u8 0,.int .u8 0,.int .u8 0,.int .u8 0,.int .u8 0,.int .u8 0,.int .u8 0,.int .u8 0,.int .u8 0,.int .u8 0,.int .u8 0,.int .u8 0,.int .u8 0,.int .u8 0,.int .u8 0,.int .u8 0,.int .u8 0,.int .u8 0,.int .u8 0,.int .u8 0,.int .u8 0,.int .u8 0,.int .u8 0,.int .u8 0,.int .u8 0,.int .u8 0,.int .u8 0,.int .i64 0] RA.zipIdx).size=39:=fold_size (fun x=>6+x.snd) _ _
 obtain⟨CS,hCS⟩:∃CS,[Value.string r.path,.int .i64 0,.bool false,.string ⟨#[]⟩,.slice none 0 0,.slice none 0 0]++(RA ++ [.int .i64 r.size])=CS:=⟨_,rfl⟩;rw[hCS]at hf2;have zaT:=yH (show CS=(bare r).cells (.slice none 0 0) (.slice none 0 0) by rw[←hCS,←Ht];rfl);have We:CS.length=39:=(by rw[←hCS];simp[wM]);have zaU:∀v∈CS,v.oneCell'=true:=by
  rw[←hCS];intro v hv;simp only[List.mem_append,List.mem_cons,List.not_mem_nil,or_false]at hv;rcases hv with(rfl|rfl|rfl|rfl|rfl|rfl)|(hv|rfl)
  ·rfl
  ·rfl
  ·rfl
  ·rfl
  ·rfl
  ·rfl
  ·exact zc2 v hv
  ·rfl
 have HWF:=yH (show ∀W,((((w.alloc (.cells cs.toArray 31)).alloc (.cells Ins.ah.cells 31)).alloc (.cells Ins.ah.cells 31)).setCells (w.heap.size+1+1) 0 CS=W)->Hid (Below w.heap.size w W/\RB W w.heap.size r (.slice ao r.tree.kids.len cap) (.slice dL r.refs.length cap2)/\Bx W (w.heap.size+1) Ins.ah.cells 31/\RB W (w.heap.size+2) (bare r) (.slice none 0 0) (.slice none 0 0))from fun W hW=>by
  have hz:((w.alloc (.cells cs.toArray 31)).alloc (.cells Ins.ah.cells 31)).heap.size=w.heap.size+1+1:=(by simp);have hst:=aX (w2:=(w.alloc (.cells cs.toArray 31)).alloc (.cells Ins.ah.cells 31)) (Z:=Ins.ah.cells) (T:=31) (cs:=CS) (W:=W) (by rw[hz];exact hW);have hbx:=lu (w2:=(w.alloc (.cells cs.toArray 31)).alloc (.cells Ins.ah.cells 31)) (Z:=Ins.ah.cells) (T:=31) (cs:=CS) (W:=W) (by rw[hz];exact hW) (by rw[We];rfl);rw[hz]at hbx;exact yH ⟨BW.out.trans (hst.mono BW.out.size),XA.out.below hst,YA.out.below hst,⟨by rw[←zaT.out];exact hbx,hh⟩⟩)
 clear F hcs hcap Ht hCS
 go_enter Tryz.func56,Tryz.ntmps56
 go_wp2_with (first
  | (refine wpList_load_mid rfl 29 _ (by rfl) w.heap.size 6 (by rfl) RA _ r1 hu rfl (by rw[wM];kernel_rfl) ?_)
  | (refine wpList_store_mid (by rfl) 31 _ _ (by rfl) (w.heap.size+1+1) 0 CS.toArray (by rfl) (by rfl) ?h4 ?h5 ?h6 ?_;rotate_right;refine Mem.named ?_;intro W hW;have FW:=HWF.out W hW;clear hW;have g1:=FW.out.2.1.c1;have g2:=FW.out.2.1.c2;have g3:=FW.out.2.1.c3;have g4:=FW.out.2.1.c4))
 case h4 =>
  have:=Bx.new ((w.alloc (.cells cs.toArray 31)).alloc (.cells Ins.ah.cells 31)) Ins.ah.cells 31;rw[show((w.alloc (.cells cs.toArray 31)).alloc (.cells Ins.ah.cells 31)).heap.size=w.heap.size+1+1 by simp]at this
  first|exact this.there 39 rfl|exact this.there _ (by rw[show CS.toArray.size=39 by simpa using We];rfl)
 case h5=>first|exact sN|(rw[List.size_toArray,We];kernel_rfl)
 case h6=>first|exact zaU|exact all_oneCell_toArray zaU
 have BWW:=FW.out.1;clear g1 g2 g3 g4 q0 q1 q2 q3 q4 q5 q38 hf2 hsz r1 HWF;have hbt:r.tree.bulk<=4194304:=(by unfold Rec.bulk at hb;omega);refine(Clone.V9 S r.tree (.slice ao r.tree.kids.len cap) W (HK.out.below BWW) hbt).mono ?_;rintro e w2 ⟨kv',rfl,hk2,b2⟩;have HK2:=yH hk2;obtain⟨ve,cap3,rfl,_,_,_⟩:=hk2;have X2:=yH (FW.out.2.1.below b2);have Y2:=yH (FW.out.2.2.1.below b2);have Z2:=yH (FW.out.2.2.2.below b2);have B2:=BWW.trans (b2.mono BWW.size);have s0:w.heap.size+3<=W.heap.size:=FW.out.2.2.2.bx.lt;have S0:=yH s0;have g1:w2.cell? ⟨w.heap.size+1+1,1,none⟩=some (.int .i64 (bare r).tree.kind):=Z2.out.c1;have g2:w2.cell? ⟨w.heap.size+1+1,2,none⟩=some (.bool (bare r).tree.exec):=Z2.out.c2;have g3:w2.cell? ⟨w.heap.size+1+1,3,none⟩=some (.string (bare r).tree.text):=Z2.out.c3;have g4:w2.cell? ⟨w.heap.size+1+1,4,none⟩=some (.slice none 0 0):=Z2.out.c4;have f1:=Z2.out.bx.frozen 1;have f2:=Z2.out.bx.frozen 2;have f3:=Z2.out.bx.frozen 3;have f4:=Z2.out.bx.frozen 4;obtain⟨W3,hW3⟩:∃W,(((w2.setCell ⟨w.heap.size+1+1,1,none⟩ (.int .i64 r.tree.kind)).setCell ⟨w.heap.size+1+1,2,none⟩ (.bool r.tree.exec)).setCell ⟨w.heap.size+1+1,3,none⟩ (.string r.tree.text)).setCell ⟨w.heap.size+1+1,4,none⟩ (.slice ve r.tree.kids.len cap3)=W:=⟨_,rfl⟩;have Z3:Hid (RB W3 (w.heap.size+2) { bare r with tree:=r.tree } (.slice ve r.tree.kids.len cap3) (.slice none 0 0)):=yH (by rw[←hW3];exact QK Z2.out);have k3:Kp (fun q=>q=w.heap.size+2) w2 W3:=(by rw[←hW3];exact FB _ _ _ _);have X3:=yH (X2.out.kp k3 (by omega));have Y3:=yH (Y2.out.kp k3 (by omega));have B3:Below w.heap.size w W3:=B2.trans (k3.below B2.size (fun i hi e=>by omega))
 have Vj:=b2.size;have k3s:=k3.size;have hrl:r.refs.length<=2097152:=(by have:=dI r.refs;unfold Rec.bulk at hb;omega);obtain⟨rv',w4,hrun,hown4,hg4⟩:=zaR.Je (w:=W3) (B:=W3.heap.size) (World.ownsRow_nil _ _ _ _) (((HR.out.sub (S':=fun q=>q<w.heap.size) (fun q hq _=>hq)).below B2).ag (Ag.bg k3 (fun q _ hq e=>by omega))) HCAP.out (by omega) (Nat.le_refl _);rw[Nat.zero_add,List.nil_append]at hown4;have b4:Below W3.heap.size W3 w4:=(Below.refl _ W3).grown hg4 (Nat.le_refl _) (fun k e=>by cases e);obtain⟨xJ,cap5,rfl⟩:=Tab.aO hown4;have X4:=yH (X3.out.below b4);have Y4:=yH (Y3.out.below b4);have Z4:=yH (Z3.out.below b4);have g5:w4.cell? ⟨w.heap.size+1+1,5,none⟩=some (.slice none 0 0):=Z4.out.c5;have f5:=Z4.out.bx.frozen 5;have c5a:W3.cell? ⟨w.heap.size,5,none⟩=some (.slice dL r.refs.length cap2):=X3.out.c5;have c5b:W3.cell? ⟨w.heap.size+1+1,5,none⟩=some (.slice none 0 0):=Z3.out.c5;obtain⟨yN,wO⟩:∃cs,r.cells (.slice ve r.tree.kids.len cap3) (.slice xJ r.refs.length cap5)=cs:=⟨_,rfl⟩;have HC5:=yH wO;have Z5:Hid (Bx (w4.setCell ⟨w.heap.size+2,5,none⟩ (.slice xJ r.refs.length cap5)) (w.heap.size+2) yN.toArray 31):=yH (by rw[←wO];exact(Z4.out.zaV _).bx);have QL:yN.length=39:=(by rw[←wO];simp[Rec.cells,Lib.byteCells,hh]);have Yo:=Z5.out.range;have Y5:=yH (Y4.out.aH (p:=⟨w.heap.size+2,5,none⟩) (.slice xJ r.refs.length cap5) (by show w.heap.size+1≠w.heap.size+2;omega));have h1o:∀v∈yN,v.oneCell'=true:=(by rw[←wO];exact cells_one rfl rfl);rw[List.toList_toArray]at Yo;clear wO

 unfold Sum.iw;simp only[show(w.heap.size+2)=w.heap.size+1+1 from rfl]at Yo Y5
 go_wp2_with (first
  | (at_builtin;refine wpList_append_run rfl _ _ 27 rfl _ _ _ _ rfl rfl hrun ?_)
  | (refine wpList_load_mid rfl 31 _ (by rfl) (w.heap.size+1+1) 0 (by rfl) yN _ Yo Tryz.underlying31 rfl (by rw[QL];kernel_rfl) ?_)
  | (refine wpList_store_mid (by rfl) 31 _ _ (by rfl) (w.heap.size+1) 0 yN.toArray (by rfl) (by rfl) ?h4 ?h5 ?h6 ?_;rotate_right;refine Mem.named ?_;intro W9 ug))
 case h4=>first|exact Y5.out.there 39 rfl|exact Y5.out.there _ (by rw[show yN.toArray.size=39 by simpa using QL];rfl)
 case h5=>first|exact sN|(rw[List.size_toArray,QL];kernel_rfl)
 case h6=>first|exact h1o|exact all_oneCell_toArray h1o
 have k45:Kp (fun b=>b=w.heap.size+2) w4 (w4.setCell ⟨w.heap.size+1+1,5,none⟩ (.slice xJ r.refs.length cap5)):=(Kp.refl (fun b=>b=w.heap.size+2) w4).setCell _ _ (fun _=>rfl);have hW2:(w4.setCell ⟨w.heap.size+1+1,5,none⟩ (.slice xJ r.refs.length cap5)).setCells (w.heap.size+1) 0 yN=W9:=ug;have hlv:=Tab.uf Y5.out rfl yN QL;rw[hW2]at hlv;have QM:Kp (fun b=>b=w.heap.size+2∨b=w.heap.size+1) w4 W9:=(by rw[←hW2];exact aW (fun _=>.inr rfl) _ _ (k45.mono (fun i _ e=>.inl e)));have B4:Below w.heap.size w w4:=B3.trans (b4.mono B3.size);have bW:Below w.heap.size w W9:=B4.trans (QM.below B4.size (fun i hi e=>by rcases e with e|e<;>omega));have b4s:=b4.size;refine bodyPost_ret (v:=.agg yN.toArray) (ai Tryz.results56 rfl hlv) rfl ⟨yN,rfl,⟨_,_,fun q=>q<w2.heap.size/\W.heap.size<=q,fun q=>W3.heap.size<=q,HC5.out.symm,hh,fun q hq=>by show w.heap.size<=q;omega,fun q hq=>by show w.heap.size<=q;omega,fun q h1 h2=>by omega,?_,?_⟩,bW⟩
 ·have h3:=(HK2.out.sub (S':=fun q=>q<w2.heap.size/\W.heap.size<=q) (fun q hz (hq:W.heap.size<=q)=>⟨hz,hq⟩));have h4:=(h3.ag k3.size (Ag.bg k3 (fun q _ hq e=>by omega))).below b4;exact h4.ag QM.size (Ag.bg QM (fun q _ hq e=>by rcases e with e|e<;>omega))
 ·exact((mZ.bU hown4).sub (S':=fun q=>W3.heap.size<=q) (fun q _ hq=>hq.1)).ag QM.size (Ag.bg QM (fun q _ (hq:W3.heap.size<=q) e=>by rcases e with e|e<;>omega))
end Twin
end Go.Proofs.YtmmmghpimdfleaaGreatDoor
