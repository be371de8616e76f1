/-
  zb9, trees and lists of texts, as an argument reads in memory.
-/
import Derived.Test.YtmmmghpimdfleaaGreatDoorRows
import Derived.Test.YtmmmghpimdfleaaGreatDoorGrpA
import Derived.Deep.Strs
import Derived.OpenShut
set_option linter.unusedVariables false
set_option maxRecDepth 20000
namespace Go.Proofs.YtmmmghpimdfleaaGreatDoor.Op
open Go.RowKit Mem Tr Go.Deep Go.ChangeShapes Go.WideShapes
theorem Iw:Tryz.prog.cellsOf 116=5:=by kernel_rfl
theorem Gs:Tryz.prog.cellsOf 26=4:=by kernel_rfl
theorem TI:Tryz.prog.cellsOf 31=39:=by kernel_rfl
theorem Ux:Tryz.prog.cellsOf 29=32:=by kernel_rfl
theorem zdY:Tryz.prog.cellsOf 5=1:=by kernel_rfl
theorem Ea:Tryz.prog.cellsOf 9=1:=by kernel_rfl
theorem Py:Tryz.prog.cellsOf 3=1:=by kernel_rfl
theorem XY:Tryz.prog.cellsOf 23=1:=by kernel_rfl
theorem Ya:Tryz.prog.cellsOf 4=1:=by kernel_rfl
theorem Yb:Tryz.prog.cellsOf 24=1:=by kernel_rfl
theorem Pz:Tryz.prog.cellsOf 27=1:=by kernel_rfl
/-- the blocks that are there -/
def Old(w:World):Nat->Prop:=fun b=>b<w.heap.size

section
variable {H : Type} {enc : TypeId × Value → H} {w : World} {spare : Nat → Bool} {held : Bool}
theorem jS{x:Value}{v:Value}(h:[x] = [v]):x=v:=by simpa using h
theorem JV(a b c d:DataW H):Rows.uptoBulk (.agg [a,b,c,d])=Rows.uptoBulk a+(Rows.uptoBulk b+(Rows.uptoBulk c+(Rows.uptoBulk d+0)))+1:=rfl
theorem zy(a b:DataW H):Rows.uptoBulk (.agg [a,b])=Rows.uptoBulk a+(Rows.uptoBulk b+0)+1:=rfl
theorem zA(a b c d e:DataW H):Rows.uptoBulk (.agg [a,b,c,d,e])=Rows.uptoBulk a+(Rows.uptoBulk b+(Rows.uptoBulk c+(Rows.uptoBulk d+(Rows.uptoBulk e+0))))+1:=rfl
theorem lJ(s:ByteArray):Rows.uptoBulk (H:=H) (.lit (.string s.data.toList))=s.size+1:=by
 show s.data.toList.length+1=_;simp
theorem oq(k:IntKind)(n:Int):Rows.uptoBulk (H:=H) (.lit (.int k n))=1:=rfl
theorem JW(b:Bool):Rows.uptoBulk (H:=H) (.lit (.bool b))=1:=rfl
theorem Gt(a b:List (DataW H)):Rows.uptoBulk (.slice a b)=Rows.uptoBulkAll a+Rows.uptoBulkAll b+1:=rfl
theorem open_node{n:Nat}(hk:∀(cs:List Value) (x:DataW H × List MemPlace),DataW.trod enc Tryz.prog w 0 spare held n 24 cs=some x->∃v ks,cs = [v]/\ay (Old w) w v ks/\ks.bulk+2<=2*Rows.uptoBulk x.1)
 {cs:List Value} {x:DataW H × List MemPlace} (h:DataW.trod enc Tryz.prog w 0 spare held (n+1) 26 cs=some x) :
 ∃(k:Int) (e:Bool) (t:ByteArray) (kv:Value) (ks:Tr.Kids),cs = [.int .i64 k,.bool e,.string t,kv]/\ay (Old w) w kv ks/\t.size+ks.bulk+10<=2*Rows.uptoBulk x.1:=by
 obtain⟨xs,m,hm,rfl,hl,hlen,hf⟩:=DataW.trod_struct Tryz.underlying26 h;obtain rfl:n=m:=(by omega);rw[Gs]at hl
 match cs,hl with
 | [a,b,c,d],_ =>
 match xs,hlen with
 | [y0,y1,y2,y3],_ =>
  have h0:DataW.trod enc Tryz.prog w 0 spare held n 23 (([a,b,c,d].drop 0).take (Tryz.prog.cellsOf 23))=some y0:=hf 0 _ rfl;have h1:DataW.trod enc Tryz.prog w 0 spare held n 4 (([a,b,c,d].drop 1).take (Tryz.prog.cellsOf 4))=some y1:=hf 1 _ rfl;have h2:DataW.trod enc Tryz.prog w 0 spare held n 9 (([a,b,c,d].drop 2).take (Tryz.prog.cellsOf 9))=some y2:=hf 2 _ rfl;have h3:DataW.trod enc Tryz.prog w 0 spare held n 24 (([a,b,c,d].drop 3).take (Tryz.prog.cellsOf 24))=some y3:=hf 3 _ rfl;rw[XY]at h0;rw[Ya]at h1;rw[Ea]at h2;rw[Yb]at h3;obtain⟨k,e0,rfl,_⟩:=DataW.trod_int Tryz.underlying23 h0;obtain⟨e,e1,rfl⟩:=DataW.trod_bool Tryz.underlying4 h1;obtain⟨t,e2,rfl,_⟩:=DataW.trod_string Tryz.underlying9 h2;obtain⟨kv,ks,e3,hks,hb⟩:=hk _ _ h3;obtain rfl:a = .int .i64 k:=jS e0;obtain rfl:b = .bool e:=jS e1;obtain rfl:c = .string t:=jS e2;obtain rfl:d=kv:=jS e3;refine⟨k,e,t,d,ks,rfl,hks,?_⟩;show t.size+ks.bulk+10<=2*Rows.uptoBulk (.agg [.lit (.int .i64 k),.lit (.bool e),.lit (.string t.data.toList),y3.1]);rw[JV,lJ,oq,JW];omega
theorem Gu{n:Nat}(hk:∀(cs:List Value) (x:DataW H × List MemPlace),DataW.trod enc Tryz.prog w 0 spare held n 24 cs=some x->∃v ks,cs = [v]/\ay (Old w) w v ks/\ks.bulk+2<=2*Rows.uptoBulk x.1)
 {cs:List Value} {x:DataW H × List MemPlace} (h:DataW.trod enc Tryz.prog w 0 spare held (n+2) 116 cs=some x) :
 ∃(nm:ByteArray) (k:Int) (e:Bool) (t:ByteArray) (kv:Value) (ks:Tr.Kids),cs = [.string nm,.int .i64 k,.bool e,.string t,kv]/\ay (Old w) w kv ks/\nm.size+t.size+8+ks.bulk<=2*Rows.uptoBulk x.1:=by
 obtain⟨xs,m,hm,rfl,hl,hlen,hf⟩:=DataW.trod_struct Tryz.underlying116 h;obtain rfl:n+1=m:=(by omega);rw[Iw]at hl
 match cs,hl with
 | [a,b,c,d,f],_ =>
 match xs,hlen with
 | [y0,y1],_ =>
  have h0:DataW.trod enc Tryz.prog w 0 spare held (n+1) 9 (([a,b,c,d,f].drop 0).take (Tryz.prog.cellsOf 9))=some y0:=hf 0 _ rfl;have h1:DataW.trod enc Tryz.prog w 0 spare held (n+1) 26 (([a,b,c,d,f].drop 1).take (Tryz.prog.cellsOf 26))=some y1:=hf 1 _ rfl;rw[Ea]at h0;rw[Gs]at h1;obtain⟨nm,e0,rfl,_⟩:=DataW.trod_string Tryz.underlying9 h0;obtain⟨k,e,t,kv,ks,e1,hks,hb⟩:=open_node hk h1;obtain rfl:a = .string nm:=jS e0;have e2:[b,c,d,f] = [.int .i64 k,.bool e,.string t,kv]:=e1;refine⟨nm,k,e,t,kv,ks,by rw[e2],hks,?_⟩;show _<=2*Rows.uptoBulk (.agg [.lit (.string nm.data.toList),y1.1]);rw[zy,lJ];omega
theorem Gv{n:Nat} (he:∀(cs:List Value) (x:DataW H × List MemPlace),DataW.trod enc Tryz.prog w 0 spare held n 116 cs=some x ->
 ∃(nm:ByteArray) (k:Int) (e:Bool) (t:ByteArray) (kv:Value) (ks:Tr.Kids),cs = [.string nm,.int .i64 k,.bool e,.string t,kv]/\ay (Old w) w kv ks/\nm.size+t.size+8+ks.bulk<=2*Rows.uptoBulk x.1) (b:Nat) :
 ∀(l:List (DataW H × List MemPlace)) (off:Nat),(∀i,i<l.length->(w.cells? 0 ⟨b,off+i*5,none⟩ 5).bind (DataW.trod enc Tryz.prog w 0 spare held n 116)=l[i]?) ->
  ∃ks:Tr.Kids,ks.len=l.length/\gI (Old w) w ks b off/\ks.bulk<=2*Rows.uptoBulkAll (l.map (·.1)):=by
 intro l
 induction l with
 | nil=>intro off _;exact⟨.nil,rfl,trivial,Nat.zero_le _⟩
 | cons x l ih =>
  intro off h;have h0:=h 0 (by simp);obtain⟨cs,h1,h2⟩:=Option.bind_eq_some_iff.1 (show _=some x from h0);obtain⟨nm,k,e,t,kv,sub,rfl,hk,hb⟩:=he _ _ h2;obtain⟨_,_,hc⟩:=World.cells?_some h1;obtain⟨ks,hl,hel,hbk⟩:=ih (off+5) (fun i hi=>by
   have:=h (i+1) (by simpa using hi);rw[show off+(i+1)*5=off+5+i*5 by omega]at this
   simpa using this)
  have hcell:∀i,i<5->w.cell? ⟨b,off+i,none⟩ = [Value.string nm,.int .i64 k,.bool e,.string t,kv][i]?:=fun i hi=>by
   have:=hc i hi;rwa[add_plain,show off+0*5+i=off+i by omega]at this
  obtain⟨ao,cap,rfl,hkl,hkm,hke⟩:=hk;refine⟨.cons nm k e t sub ks,by simp[Kids.len,hl],⟨World.block_lt_of_cell? w _ (hcell 0 (by omega)),hcell 0 (by omega),hcell 1 (by omega),hcell 2 (by omega),hcell 3 (by omega),⟨ao,cap,hcell 4 (by omega),hkl,hkm,hke⟩,hel⟩,?_⟩;show nm.size+t.size+8+sub.bulk+ks.bulk<=2*(Rows.uptoBulk x.1+Rows.uptoBulkAll (l.map (·.1)));omega
theorem open_kids:∀(fuel:Nat) (cs:List Value) (x:DataW H × List MemPlace),DataW.trod enc Tryz.prog w 0 spare held fuel 24 cs=some x ->
 ∃v ks,cs = [v]/\ay (Old w) w v ks/\ks.bulk+2<=2*Rows.uptoBulk x.1:=by
 intro fuel
 induction fuel using Nat.strongRecOn with
 | _ fuel ih =>
  intro cs x h;rcases DataW.trod_slice Tryz.underlying24 h with⟨rfl,rfl⟩|⟨a,len,cap,elems,rest,n,hn,rfl,rfl,hb,hl,hm,hlen,hel,hsp,hns⟩
  ·exact⟨_,.nil,rfl,⟨none,0,rfl,Nat.le_refl _,Nat.zero_le _,.inl rfl⟩,Nat.le_refl _⟩
  ·rw[Iw]at hel;have key:∃ks:Tr.Kids,ks.len=len/\(ks = .nil∨∃b off,some a=some ⟨b,off,none⟩/\gI (Old w) w ks b off)/\ks.bulk<=2*Rows.uptoBulkAll (elems.map (·.1)):=by
    by_cases h0:len=0
    ·exact⟨.nil,by rw[h0];rfl,.inl rfl,Nat.zero_le _⟩
    ·have h1:=hel 0 (by omega);rw[List.getElem?_eq_getElem (by omega)]at h1;obtain⟨cs',h2,h3⟩:=Option.bind_eq_some_iff.1 h1;obtain⟨_,hl5,hc⟩:=World.cells?_some h2;have h4:=hc 0 (by omega);rw[List.getElem?_eq_getElem (by omega)]at h4;obtain⟨b,off,spot⟩:=a;have hspot:spot=none:=(by simpa[Addr.add]using World.cell?_spot h4);subst hspot;have hE:∀(cs:List Value) (x:DataW H × List MemPlace),DataW.trod enc Tryz.prog w 0 spare held n 116 cs=some x ->
      ∃(nm:ByteArray) (k:Int) (e:Bool) (t:ByteArray) (kv:Value) (ks:Tr.Kids),cs = [.string nm,.int .i64 k,.bool e,.string t,kv]/\ay (Old w) w kv ks/\nm.size+t.size+8+ks.bulk<=2*Rows.uptoBulk x.1:=by
      intro cs x hx
      match n,hx,hn with
      | 0,hx,_=>simp[DataW.trod]at hx
      | 1,hx,_ =>
       obtain⟨xs,m,hm,rfl,hl,hlen,hf⟩:=DataW.trod_struct Tryz.underlying116 hx;obtain rfl:m=0:=(by omega);have:=hf 0 _ rfl;rw[List.getElem?_eq_getElem (by rw[hlen];decide)]at this;simp[DataW.trod]at this
      | m+2,hx,hn=>exact Gu (fun cs x h=>ih m (by omega) cs x h) hx
     obtain⟨ks,k1,k2,k3⟩:=Gv hE b elems off (fun i hi=>by
      have:=hel i (by omega);rwa[add_plain]at this)
     exact⟨ks,k1.trans hlen,.inr ⟨b,off,rfl,k2⟩,k3⟩
   obtain⟨ks,rfl,k2,k3⟩:=key;refine⟨_,ks,rfl,⟨some a,cap,rfl,hl,hm,k2⟩,?_⟩;show ks.bulk+2<=2*(Rows.uptoBulkAll (elems.map (·.1))+_+1);omega
theorem Gw(Sx:Nat->ByteArray):∀L:List Nat,Rows.uptoBulkAll (H:=H) (L.map fun i=>.lit (.string (Sx i).data.toList))=aB (L.map Sx):=by
 intro L
 induction L with
 | nil=>rfl
 | cons x L ih =>
  show Rows.uptoBulk _+Rows.uptoBulkAll _=_;rw[lJ,ih];rfl
theorem xy{fuel:Nat}{cs:List Value}{x:DataW H × List MemPlace}(h:DataW.trod enc Tryz.prog w 0 spare held fuel 27 cs=some x) :
 ∃v l,cs = [v]/\Strs (Old w) w v l/\aB l+1<=Rows.uptoBulk x.1/\(∀n cap,v = .slice none n cap->cap=0):=by
 rcases open_strs Tryz.underlying27 Tryz.underlying9 Ea h with⟨rfl,rfl⟩|⟨a,len,cap,m,Sx,rfl,hb,hl,hm,hmm,rfl,hx⟩
 ·exact⟨_,[],rfl,Strs.nil _ _,Nat.le_refl _,fun n cap h=>by cases h;rfl⟩
 ·have hlm:len<=m:=(by rw[hmm];split<;>omega);refine⟨_,(List.range len).map Sx,rfl,⟨some a,cap,by simp,by simpa using hl,hm,?_⟩,?_,fun n cap h=>by cases h⟩
  ·by_cases h0:len=0
   ·exact .inl (by rw[h0];rfl)
   ·have h1:=(hx 0 (by omega)).1;obtain⟨b,off,spot⟩:=a;have hspot:spot=none:=(by simpa[Addr.add]using World.cell?_spot h1);subst hspot;refine .inr ⟨b,off,rfl,?_,fun j hj=>?_⟩
    ·rw[add_plain]at h1;exact World.block_lt_of_cell? w _ h1
    ·have:=(hx j (by simp at hj;omega)).1;rw[add_plain]at this
     simpa using this
  ·show _<=Rows.uptoBulk (.slice _ _);rw[Gt,Gw];omega
theorem SQ(cs:List Value)(h:cs.length=39):cs=(cs.drop 0).take 1++((cs.drop 1).take 4++((cs.drop 5).take 1++((cs.drop 6).take 32++(cs.drop 38).take 1))):=by
 have a:∀n m,cs.drop n=(cs.drop n).take m++cs.drop (n+m):=fun n m=>by
  rw[←List.drop_drop];exact(List.take_append_drop m _).symm
 have e:(cs.drop 38).take 1=cs.drop 38:=List.take_of_length_le (by simp;omega);rw[e,←a 6 32,←a 5 1,←a 1 4,←a 0 1];rfl
theorem open_bytes{fuel:Nat}{cs:List Value}{x:DataW H × List MemPlace}(h:DataW.trod enc Tryz.prog w 0 spare held fuel 29 cs=some x):∃l:List UInt8,cs=Lib.byteCells l/\l.length=32:=by
 obtain⟨xs,m,_,rfl,hl,hlen,hf⟩:=DataW.trod_array Tryz.underlying29 h;rw[Ux]at hl;rw[zdY]at hf;have each:∀i,i<32->∃b:UInt8,cs[i]? = some (.int .u8 (b.toNat:Int)):=fun i hi=>by
  have h1:=hf i hi;rw[List.getElem?_eq_getElem (by omega),Nat.mul_one]at h1;obtain⟨n,e1,_,hw⟩:=DataW.trod_int Tryz.underlying5 h1;have hb:=bounds_u8 hw;refine⟨UInt8.ofNat n.toNat,?_⟩;have h2:cs[i]? = some (.int .u8 n):=by
   have h3:((cs.drop i).take 1)[0]? = some (.int .u8 n):=(by rw[e1];rfl);rw[List.getElem?_take]at h3
   simpa using h3
  rw[h2];have:((UInt8.ofNat n.toNat).toNat:Int)=n:=by
   rw[UInt8.toNat_ofNat'];omega
  rw[this]
 obtain⟨f,hF⟩:=choose_lt (α:=UInt8) each;refine⟨(List.range 32).map f,?_,by simp⟩;apply List.ext_getElem?;intro i;by_cases hi:i<32
 ·rw[hF i hi];simp[Lib.byteCells,hi]
 ·rw[List.getElem?_eq_none (by omega),List.getElem?_eq_none (by simp[Lib.byteCells];omega)]
theorem open_rec{fuel:Nat}{cs:List Value}{x:DataW H × List MemPlace}(h:DataW.trod enc Tryz.prog w 0 spare held fuel 31 cs=some x) :
 ∃r:Rec,aT (Old w) w cs r/\r.bulk+2<=2*Rows.uptoBulk x.1/\aB r.refs<=Rows.uptoBulk x.1/\(∀kv n cap,cs=r.cells kv (.slice none n cap)->cap=0):=by
 obtain⟨xs,n,_,rfl,hl,hlen,hf⟩:=DataW.trod_struct Tryz.underlying31 h;rw[TI]at hl
 match xs,hlen with
 | [y0,y1,y2,y3,y4],_ =>
  have h0:DataW.trod enc Tryz.prog w 0 spare held n 9 ((cs.drop 0).take (Tryz.prog.cellsOf 9))=some y0:=hf 0 _ rfl;have h1:DataW.trod enc Tryz.prog w 0 spare held n 26 ((cs.drop 1).take (Tryz.prog.cellsOf 26))=some y1:=hf 1 _ rfl;have h2:DataW.trod enc Tryz.prog w 0 spare held n 27 ((cs.drop 5).take (Tryz.prog.cellsOf 27))=some y2:=hf 2 _ rfl;have h3:DataW.trod enc Tryz.prog w 0 spare held n 29 ((cs.drop 6).take (Tryz.prog.cellsOf 29))=some y3:=hf 3 _ rfl;have h4:DataW.trod enc Tryz.prog w 0 spare held n 3 ((cs.drop 38).take (Tryz.prog.cellsOf 3))=some y4:=hf 4 _ rfl;rw[Ea]at h0;rw[Gs]at h1;rw[Pz]at h2;rw[Ux]at h3;rw[Py]at h4;obtain⟨p,e0,rfl,_⟩:=DataW.trod_string Tryz.underlying9 h0;obtain⟨k,e,t,kv,ks,e1,hks,hbk⟩:∃(k:Int) (e:Bool) (t:ByteArray) (kv:Value) (ks:Tr.Kids),(cs.drop 1).take 4 = [.int .i64 k,.bool e,.string t,kv]/\ay (Old w) w kv ks/\t.size+ks.bulk+10<=2*Rows.uptoBulk y1.1:=by
   match n,h1 with
   | 0,h1=>simp[DataW.trod]at h1
   | m+1,h1=>exact open_node (fun cs x h=>open_kids m cs x h) h1
  obtain⟨rv,l,e2,nR,hbl,hcap⟩:=xy h2;obtain⟨hh,e3,hhl⟩:=open_bytes h3;obtain⟨sz,e4,rfl,_⟩:=DataW.trod_int Tryz.underlying3 h4;have e5:=SQ cs hl;rw[e0,e1,e2,e3,e4]at e5;refine⟨⟨p,⟨k,e,t,ks⟩,l,hh,sz⟩,⟨kv,rv,e5,hhl,hks,nR⟩,?_,?_,?_⟩
  ·show p.size+(t.size+ks.bulk)+aB l+2<=2*Rows.uptoBulk (.agg [.lit (.string p.data.toList),y1.1,y2.1,y3.1,.lit (.int .i64 sz)]);rw[zA,lJ,oq];omega
  ·show aB l<=Rows.uptoBulk (.agg [.lit (.string p.data.toList),y1.1,y2.1,y3.1,.lit (.int .i64 sz)]);rw[zA,lJ,oq];omega
  ·intro kv' n' cap' he;refine hcap n' cap' ?_;rw[e5]at he;unfold Rec.cells at he;simp only[List.cons_append,List.nil_append,List.cons.injEq]at he;exact he.2.2.2.2.2.1
/-- A list of records in memory. -/
def jR(S:Nat->Prop)(w:World)(v:Value)(l:List Rec):Prop :=
 ∃ao cap,v = .slice ao l.length cap/\l.length<=cap/\cap<=maxLen/\(l = []∨∃b off,ao=some ⟨b,off,none⟩/\S b/\∀j (h:j<l.length),∃cs,w.rangeAt b (off+j*39) cs/\aT S w cs l[j])
def gJ(l:List Rec):Nat:=(l.map fun r=>r.bulk+2).sum
theorem jR.ag{S:Nat->Prop}{w w':World}{v:Value}{l:List Rec}(h:jR S w v l)(ha:Ag S w w'):jR S w' v l:=by
 obtain⟨ao,cap,hv,hl,hm,hk⟩:=h;exact⟨ao,cap,hv,hl,hm,hk.imp id (fun⟨b,o,e1,e2,e3⟩=>⟨b,o,e1,e2,fun j hj=>by
  obtain⟨cs,h1,h2⟩:=e3 j hj;exact⟨cs,fun i u hi=>ha.cell (p:=⟨b,o+j*39+i,none⟩) e2 (h1 i u hi),h2.ag ha⟩⟩)⟩
theorem jR.mono{S S':Nat->Prop}{w:World}{v:Value}{l:List Rec}(h:jR S w v l)(hs:∀b,S b->S' b):jR S' w v l:=by
 obtain⟨ao,cap,hv,hl,hm,hk⟩:=h;exact⟨ao,cap,hv,hl,hm,hk.imp id (fun⟨b,o,e1,e2,e3⟩=>⟨b,o,e1,hs _ e2,fun j hj=>by
  obtain⟨cs,h1,h2⟩:=e3 j hj;exact⟨cs,h1,h2.sub fun _ _ h=>hs _ h⟩⟩)⟩
theorem jR.below{S:Nat->Prop}{w w':World}{v:Value}{l:List Rec}(h:jR S w v l)(hb:Below w.heap.size w w'):jR S w' v l:=h.ag (Ag.of_below hb)

/-! ### arguments -/
theorem CQ(a:Option Addr)(n c:Nat):(Value.slice a n c).cells.toList = [.slice a n c]:=rfl
end
end Go.Proofs.YtmmmghpimdfleaaGreatDoor.Op
