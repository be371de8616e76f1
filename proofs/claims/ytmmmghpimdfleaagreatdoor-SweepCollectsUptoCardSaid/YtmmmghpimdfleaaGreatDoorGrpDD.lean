/-
  A list of records as an argument: of none whose references are the nil slice is the capacity more than 0.
  The ak store as a plain list in order of arrival, beside the program's sorted one: they hold the same.
  The ak small loops: pO.has, VM.has, pO.Find.
  The ak MK.
  The ak Find and Closure as plain lists.
  The ak Insert.
  The ak Closure, Live and Dead (printed by tools/zd9.py).
  The ak Live and Dead (printed by tools/zea.py).
-/
import Derived.Test.YtmmmghpimdfleaaGreatDoorTk
import Derived.Test.YtmmmghpimdfleaaGreatDoorOpen
import Derived.Test.YtmmmghpimdfleaaGreatDoorGrpZA
import Derived.Test.YtmmmghpimdfleaaGreatDoorGrpA
import Derived.Test.YtmmmghpimdfleaaGreatDoorGrpZ
import Derived.Test.YtmmmghpimdfleaaGreatDoorGrpDE
import Derived.Test.YtmmmghpimdfleaaGreatDoorGrpDC
import Derived.Test.YtmmmghpimdfleaaGreatDoorGrpZB
set_option linter.unusedVariables false
set_option maxHeartbeats 8000000
set_option linter.unusedSimpArgs false
set_option maxRecDepth 20000
namespace Go.Proofs.YtmmmghpimdfleaaGreatDoor
namespace Op
open Go.RowKit Mem Tr Go.Deep Go.ChangeShapes Go.WideShapes
def jQ(S:Nat->Prop)(w:World)(v:Value)(l:List Rec):Prop :=
 ∃ao cap,v = .slice ao l.length cap/\l.length<=cap/\cap<=maxLen/\(l = []∨∃b off,ao=some ⟨b,off,none⟩/\S b/\∀j (h:j<l.length),∃cs,w.rangeAt b (off+j*39) cs/\aT S w cs l[j]/\(∀kv n cap,cs=l[j].cells kv (.slice none n cap)->cap=0))
theorem jQ.recs{S:Nat->Prop}{w:World}{v:Value}{l:List Rec}(h:jQ S w v l):jR S w v l:=by
 obtain⟨ao,cap,hv,hl,hm,hk⟩:=h;exact⟨ao,cap,hv,hl,hm,hk.imp id (fun⟨b,o,e1,e2,e3⟩=>⟨b,o,e1,e2,fun j hj=>by
  obtain⟨cs,h1,h2,_⟩:=e3 j hj;exact⟨cs,h1,h2⟩⟩)⟩
theorem jQ.ag{S:Nat->Prop}{w w':World}{v:Value}{l:List Rec}(h:jQ S w v l)(ha:Ag S w w'):jQ S w' v l:=by
 obtain⟨ao,cap,hv,hl,hm,hk⟩:=h;exact⟨ao,cap,hv,hl,hm,hk.imp id (fun⟨b,o,e1,e2,e3⟩=>⟨b,o,e1,e2,fun j hj=>by
  obtain⟨cs,h1,h2,h3⟩:=e3 j hj;exact⟨cs,fun i u hi=>ha.cell (p:=⟨b,o+j*39+i,none⟩) e2 (h1 i u hi),h2.ag ha,h3⟩⟩)⟩
theorem jQ.mono{S S':Nat->Prop}{w:World}{v:Value}{l:List Rec}(h:jQ S w v l)(hs:∀b,S b->S' b):jQ S' w v l:=by
 obtain⟨ao,cap,hv,hl,hm,hk⟩:=h;exact⟨ao,cap,hv,hl,hm,hk.imp id (fun⟨b,o,e1,e2,e3⟩=>⟨b,o,e1,hs _ e2,fun j hj=>by
  obtain⟨cs,h1,h2,h3⟩:=e3 j hj;exact⟨cs,h1,h2.sub fun _ _ h=>hs _ h,h3⟩⟩)⟩
theorem jQ.below{S:Nat->Prop}{w w':World}{v:Value}{l:List Rec}(h:jQ S w v l)(hb:Below w.heap.size w w'):jQ S w' v l:=h.ag (Ag.of_below hb)

section
variable {H : Type} {enc : TypeId × Value → H} {w : World} {spare : Nat → Bool} {held : Bool}
theorem Fa{n:Nat}(b:Nat):∀(l:List (DataW H × List MemPlace)) (off:Nat),(∀i,i<l.length->(w.cells? 0 ⟨b,off+i*39,none⟩ 39).bind (DataW.trod enc Tryz.prog w 0 spare held n 31)=l[i]?) ->
 ∃rs:List Rec,rs.length=l.length/\(∀j (h:j<rs.length),∃cs,w.rangeAt b (off+j*39) cs/\aT (Old w) w cs rs[j]/\(∀kv n cap,cs=rs[j].cells kv (.slice none n cap)->cap=0))/\gJ rs<=2*Rows.uptoBulkAll (l.map (·.1)):=by
 intro l
 induction l with
 | nil=>intro off _;exact⟨[],rfl,fun j h=>absurd h (by simp),Nat.zero_le _⟩
 | cons x l ih =>
  intro off h;have h0:=h 0 (by simp);obtain⟨cs,h1,h2⟩:=Option.bind_eq_some_iff.1 (show _=some x from h0);obtain⟨r,hr,hb,_,hN⟩:=open_rec h2;obtain⟨_,zev,hc⟩:=World.cells?_some h1;obtain⟨rs,hl,hel,hbk⟩:=ih (off+39) (fun i hi=>by
   have:=h (i+1) (by simpa using hi);rw[show off+(i+1)*39=off+39+i*39 by omega]at this
   simpa using this)
  refine⟨r :: rs,by simp[hl],?_,?_⟩
  ·intro j hj;cases j with
   | zero =>
    refine⟨cs,fun i u hi=>?_,hr,hN⟩;have zcN:i<39:=(by have:=(List.getElem?_eq_some_iff.1 hi).1;omega);have:=hc i zcN;rw[add_plain]at this;rw[this,hi]
   | succ j =>
    obtain⟨cs2,q1,q2⟩:=hel j (by simpa using hj);rw[show off+39+j*39=off+(j+1)*39 by omega]at q1;exact⟨cs2,q1,by simpa using q2⟩
  ·show r.bulk+2+gJ rs<=2*(Rows.uptoBulk x.1+Rows.uptoBulkAll (l.map (·.1)));omega
/-- What reads as a list of records is one. -/
theorem Fb{fuel:Nat}{cs:List Value}{x:DataW H × List MemPlace}(h:DataW.trod enc Tryz.prog w 0 spare held fuel 22 cs=some x) :
 ∃v l,cs = [v]/\jQ (Old w) w v l/\gJ l+2<=2*Rows.uptoBulk x.1:=by
 rcases DataW.trod_slice Tryz.underlying22 h with⟨rfl,rfl⟩|⟨a,len,cap,elems,rest,n,hn,rfl,rfl,hb,hl,hm,hlen,hel,hsp,hns⟩
 ·exact⟨_,[],rfl,⟨none,0,rfl,Nat.le_refl _,Nat.zero_le _,.inl rfl⟩,Nat.le_refl _⟩
 ·rw[TI]at hel;have key:∃l:List Rec,l.length=len/\(l = []∨∃b off,some a=some ⟨b,off,none⟩/\Old w b/\∀j (h:j<l.length),∃cs,w.rangeAt b (off+j*39) cs/\aT (Old w) w cs l[j]/\(∀kv n cap,cs=l[j].cells kv (.slice none n cap)->cap=0))/\gJ l<=2*Rows.uptoBulkAll (elems.map (·.1)):=by
   by_cases h0:len=0
   ·exact⟨[],by rw[h0];rfl,.inl rfl,Nat.zero_le _⟩
   ·have h1:=hel 0 (by omega);rw[List.getElem?_eq_getElem (by omega)]at h1;obtain⟨cs',h2,h3⟩:=Option.bind_eq_some_iff.1 h1;obtain⟨_,hl5,hc⟩:=World.cells?_some h2;have h4:=hc 0 (by omega);rw[List.getElem?_eq_getElem (by omega)]at h4;obtain⟨b,off,spot⟩:=a;have hspot:spot=none:=(by simpa[Addr.add]using World.cell?_spot h4);subst hspot;obtain⟨rs,k1,k2,k3⟩:=Fa b elems off (fun i hi=>by
     have:=hel i (by omega);rwa[add_plain]at this)
    exact⟨rs,k1.trans hlen,.inr ⟨b,off,rfl,World.block_lt_of_cell? w _ h4,k2⟩,k3⟩
  obtain⟨l,rfl,k2,k3⟩:=key;refine⟨_,l,rfl,⟨some a,cap,rfl,hl,hm,k2⟩,?_⟩;show gJ l+2<=2*(Rows.uptoBulkAll (elems.map (·.1))+_+1);omega
theorem I7{base:Nat}{v:Value}{d:DataW H}{ps:List MemPlace}(hv:Value.okWide Tryz.prog w .any base 22 v)(h:DataW.Trod enc Tryz.prog w 0 spare held 22 v d ps) :
 ∃l,jQ (Old w) w v l/\gJ l+2<=2*Rows.uptoBulk d:=by
 obtain⟨a,n,c,rfl⟩:=okWide_slice Tryz.underlying22 hv;obtain⟨fuel,hf⟩:=h;rw[CQ]at hf;obtain⟨v',l,e,h1,h2⟩:=Fb hf;obtain rfl:=jS e;exact⟨l,h1,h2⟩
end
end Op

namespace uI
open Go.RowKit Mem Tr St kU
def l9(rc st:Nat->BitVec 32)(ds:List Rec)(r:Rec):List Rec :=
 if aJ.eY rc st ds r=0 then(match Sp.get Rec.path ds r.path with
  | some _=>ds
  | none=>ds ++ [r])else ds
def jh(rc st:Nat->BitVec 32)(ds l:List Rec):List Rec:=l.foldl (l9 rc st) ds
structure o8(rs ds:List Rec):Prop where
 get:∀p,Sp.get Rec.path rs p=Sp.get Rec.path ds p
 mem:∀x,x∈rs↔x∈ds
 len:rs.length=ds.length
theorem o8.has{rs ds:List Rec}(h:o8 rs ds)(p:ByteArray):aJ.has rs p=aJ.has ds p:=by unfold aJ.has;rw[h.get]
theorem o8.eY{rc st:Nat->BitVec 32}{rs ds:List Rec}(h:o8 rs ds)(r:Rec):aJ.eY rc st rs r=aJ.eY rc st ds r:=by
 have h1:aJ.lacks rs r=aJ.lacks ds r:=(by unfold aJ.lacks;congr 1;funext q;rw[h.has]);unfold aJ.eY;rw[h1,h.get]
theorem ML(ds:List Rec)(r:Rec)(p:ByteArray):Sp.get Rec.path (ds ++ [r]) p=(Sp.get Rec.path ds p).or (if r.path=p then some r else none):=by
 unfold Sp.get;rw[List.find?_append];congr 1;by_cases h:r.path=p
 ·rw[if_pos h,List.find?_cons_of_pos (by simpa using h)]
 ·rw[if_neg h,List.find?_cons_of_neg (by simpa using h)];rfl
theorem o8.ins{rc st:Nat->BitVec 32}{rs ds:List Rec}(h:o8 rs ds)(hr:Sp.bf Rec.path rs)(r:Rec):o8 (aJ.fM rc st rs r) (l9 rc st ds r):=by
 unfold aJ.fM l9;rw[h.eY r];split
 ·cases hg:Sp.get Rec.path rs r.path with
  | some o=>rw[←h.get,hg];exact h
  | none =>
   rw[←h.get,hg];refine⟨fun p=>?_,fun x=>?_,?_⟩
   ·show Sp.get Rec.path (Sp.put Rec.path rs r) p=Sp.get Rec.path (ds ++ [r]) p;rw[Sp.get_put hr hg,ML,←h.get];by_cases hp:p=r.path
    ·subst hp;rw[hg,if_pos rfl];rfl
    ·rw[if_neg hp,if_neg (fun e=>hp e.symm)];cases Sp.get Rec.path rs p<;>rfl
   ·show x∈Sp.put Rec.path rs r↔x∈ds ++ [r];rw[Sp.jo,List.mem_append,List.mem_singleton,h.mem];exact Or.comm
   ·show(Sp.put Rec.path rs r).length=(ds ++ [r]).length;rw[Sp.jM,List.length_append,h.len];rfl
 ·exact h
theorem I8{rc st:Nat->BitVec 32}:∀(l rs ds:List Rec),o8 rs ds->aJ.Good rc st rs->(∀r∈l,r.bulk<=4194304)->o8 (dV rc st rs l) (jh rc st ds l):=by
 intro l
 induction l with
 | nil=>intro rs ds h _ _;exact h
 | cons r l ih =>
  intro rs ds h hg hb;exact ih _ _ (h.ins hg.rise r) (aJ.qL hg (hb r (by simp))) (fun x hx=>hb x (by simp[hx]))
theorem QB:o8 [] []:=⟨fun _=>rfl,fun _=>Iff.rfl,rfl⟩
theorem CU{rc st:Nat->BitVec 32}(ds l:List Rec)(k:Nat)(h:k<l.length):jh rc st ds (l.take (k+1))=l9 rc st (jh rc st ds (l.take k)) l[k]:=by
 rw[List.take_succ_eq_append_getElem h];unfold jh;rw[List.foldl_append];rfl
theorem MM{rc st:Nat->BitVec 32}{ds:List Rec}{r x:Rec}(h:x∈l9 rc st ds r):x∈ds∨x=r:=by
 unfold l9 at h;split at h
 ·split at h
  ·exact .inl h
  ·rcases List.mem_append.1 h with h|h
   ·exact .inl h
   ·exact .inr (List.mem_singleton.1 h)
 ·exact .inl h
theorem MN{rc st:Nat->BitVec 32}(ds:List Rec)(r:Rec):(l9 rc st ds r).length<=ds.length+1:=by
 unfold l9;split
 ·split
  ·omega
  ·simp
 ·omega
theorem Fe{rc st:Nat->BitVec 32}(l:List Rec):∀ds:List Rec,(jh rc st ds l).length<=ds.length+l.length:=by
 induction l with
 | nil=>intro ds;exact Nat.le_refl _
 | cons r l ih =>
  intro ds;have h1:=ih (l9 rc st ds r);have h2:=MN (rc:=rc) (st:=st) ds r;show(jh rc st (l9 rc st ds r) l).length<=_;rw[List.length_cons];omega
theorem Ff{rc st:Nat->BitVec 32}(l:List Rec):∀(ds:List Rec) (x:Rec),x∈jh rc st ds l->x∈ds∨x∈l:=by
 induction l with
 | nil=>intro ds x h;exact .inl h
 | cons r l ih =>
  intro ds x h;rcases ih _ _ h with h|h
  ·rcases MM h with h|h
   ·exact .inl h
   ·exact .inr (by simp[h])
  ·exact .inr (by simp[h])
theorem o8.there{rs ds:List Rec}(h:o8 rs ds)(roots:List ByteArray):there rs roots=there ds roots:=by
 unfold kU.there;congr 1;funext q;exact h.has q
theorem CV{rs ds:List Rec}(h:∀x,x∈rs->x∈ds){roots:List ByteArray}{p:ByteArray}(k:tY rs roots p):tY ds roots p:=by
 induction k with
 | root h1=>exact .root h1
 | step _ hr hq ih=>exact .step ih (h _ hr) hq
theorem o8.rch{rs ds:List Rec}(h:o8 rs ds)(roots:List ByteArray)(p:ByteArray):tY rs roots p↔tY ds roots p :=
 ⟨CV fun x=>(h.mem x).1,CV fun x=>(h.mem x).2⟩
theorem o8.lives{rs ds:List Rec}(h:o8 rs ds)(roots:List ByteArray)(p:ByteArray):jc rs roots p↔jc ds roots p:=by
 unfold jc;rw[h.there];exact h.rch _ p
theorem o8.closed{rs ds:List Rec}(h:o8 rs ds)(hc:∀r∈rs,∀q∈r.refs,aJ.has rs q=true):∀r∈ds,∀q∈r.refs,aJ.has ds q=true:=fun r hr q hq=>by
 rw[←h.has];exact hc r ((h.mem r).2 hr) q hq
theorem QC{a b:List ByteArray}(ha:wH.yK a)(hb:wH.yK b)(h:∀p,p∈a↔p∈b):a=b:=by
 refine List.Perm.eq_of_pairwise (le:=fun x y=>Sp.lt x y=true) (fun x y _ _ h1 h2=>?_) ha hb ((List.perm_ext_iff_of_nodup ?_ ?_).2 h)
 ·have:=Sp.lt_asymm h1;rw[h2]at this;cases this
 ·rw[List.nodup_iff_pairwise_ne];exact List.Pairwise.imp (fun h1 e=>by subst e;rw[Sp.lt_irrefl]at h1;cases h1) ha
 ·rw[List.nodup_iff_pairwise_ne];exact List.Pairwise.imp (fun h1 e=>by subst e;rw[Sp.lt_irrefl]at h1;cases h1) hb
/-- The other paths, rising. -/
def nM(all live:List ByteArray):List ByteArray:=all.filter fun p=>!(live.any fun q=>decide (q=p))
theorem I9{rs ds:List Rec}(h:o8 rs ds)(hr:Sp.bf Rec.path rs){roots all live:List ByteArray}(ha:wH.yK all)(hm:∀p,p∈all↔p∈ds.map Rec.path)(hl:∀p,p∈live↔jc ds roots p):iE rs roots=nM all live:=by
 refine QC ?_ (List.Pairwise.filter _ ha) (fun p=>?_)
 ·unfold iE gy;exact List.pairwise_map.2 (List.Pairwise.filter _ hr)
 ·rw[qM];unfold nM;rw[List.mem_filter,hm,List.mem_map];have e:(!(live.any fun q=>decide (q=p)))=true↔¬jc rs roots p:=by
   rw[h.lives,←hl];simp only[Bool.not_eq_true',List.any_eq_false,decide_eq_true_eq];exact⟨fun h1 h2=>h1 p h2 rfl,fun h1 x h2 e=>h1 (e▸h2)⟩
  rw[e];constructor
  ·rintro⟨⟨r,h1,h2⟩,h3⟩;exact⟨⟨r,(h.mem r).1 h1,h2⟩,h3⟩
  ·rintro⟨⟨r,h1,h2⟩,h3⟩;exact⟨⟨r,(h.mem r).2 h1,h2⟩,h3⟩
end uI

namespace yL
open Go.RowKit Mem Tr
def oQ(l:List ByteArray)(p:ByteArray):Bool:=l.any fun q=>decide (q=p)
theorem uY{l:List ByteArray}{p:ByteArray}:oQ l p=true↔p∈l:=by unfold oQ;simp
theorem G9{l:List ByteArray}{p:ByteArray}(h:p∈l):oQ l p=true:=uY.2 h
theorem TJ{l:List ByteArray}{p:ByteArray}(h:p ∉ l):oQ l p=false:=by cases hh:oQ l p;rfl;exact absurd (uY.1 hh) h
theorem yM{a b:ByteArray}(h:a=b):(a.toList==b.toList)=true:=by rw[h];simp
theorem tZ{a b:ByteArray}(h:a≠b):(a.toList==b.toList)=false:=by
 rw[beq_eq_false_iff_ne];exact fun e=>h (Sp.toList_inj e)
theorem vT(v:Value)(l:List ByteArray)(p:ByteArray)(w:World)(hr:Texts.Reads w v l)(hn:l.length<=1099511627776) :
 Calls Tryz.prog 134 #[v,.string p] w fun e w'=>e = .returned (.bool (oQ l p))/\w'=w:=by
 rcases hr with⟨ao,cap,rfl,rfl⟩|⟨b,off,cap,rfl,hm,hc⟩
 ·go_enter Tryz.func134,Tryz.ntmps134
  go_wp2_with fail
  go_loopw [5] (fun i wr=>i = .int .i64 0/\Hid (w=wr)) (fun _ _=>0)
  case atStart=>exact⟨rfl,yH rfl⟩
  case round =>
   obtain⟨rfl,hw⟩:=hrel;obtain rfl:=hw.out
   go_wp2_with fail
   go_ret;exact⟨rfl,rfl⟩
 obtain⟨n,hln⟩:∃n,l.length=n:=⟨_,rfl⟩;have HL:=yH hln;have HC:=yH hc;rw[hln]at hn ⊢;clear hc hln hm
 go_enter Tryz.func134,Tryz.ntmps134
 go_wp2_with fail
 go_loopw [5] (fun i wr=>∃k:Nat,k<=n/\i = .int .i64 k/\Hid (w=wr)/\Hid (p ∉ l.take k)) (fun i _=>n-(intOf i).toNat)
 case atStart=>exact⟨0,Nat.zero_le _,rfl,yH rfl,yH (by simp)⟩
 case round =>
  obtain⟨k,hk,rfl,hw,hi⟩:=hrel;obtain rfl:=hw.out;have e0:(0:Int)<=(k:Int):=Int.natCast_nonneg _;by_cases hlt:k<n
  ·have e1:(k:Int)<(n:Int):=(by omega);have hkl:k<l.length:=(by rw[HL.out];exact hlt);have hcell:=HC.out k hkl;obtain⟨q,hq⟩:∃q,l[k]=q:=⟨_,rfl⟩;rw[hq]at hcell;have HQ:=yH (show l.take (k+1)=l.take k ++ [q] by rw[List.take_succ_eq_append_getElem hkl,hq]);have HM:=yH (show q∈l by rw[←hq];exact List.getElem_mem hkl);clear hkl hq;by_cases hp:q=p
   ·have t1:=yM hp;have HE:=yH (show oQ l p=true from G9 (hp▸HM.out));clear hp
    go_wp2_with fail
    go_ret;exact⟨by rw[HE.out];rfl,rfl⟩
   ·have t1:=tZ hp;have HE:=yH (show p ∉ l.take (k+1) by rw[HQ.out,List.mem_append,List.mem_singleton];rintro(h|h);exact hi.out h;exact hp h.symm);clear hp
    go_wp2_with fail
    go_roundw
    case rel=>exact⟨k+1,by omega,by go_num,yH (by trivial),HE⟩
    case measure=>simp[intOf];omega
  ·have hk2:k=n:=(by omega);subst hk2;have HE:=yH (show oQ l p=false from TJ (by have h:=hi.out;rwa[List.take_of_length_le (by rw[HL.out];omega)]at h))
   go_wp2_with fail
   go_ret;exact⟨by rw[HE.out];rfl,rfl⟩
theorem VN(v:Value)(l:List ByteArray)(p:ByteArray)(w:World)(hr:Texts.Reads w v l)(hn:l.length<=1099511627776) :
 Calls Tryz.prog 96 #[v,.string p] w fun e w'=>e = .returned (.bool (oQ l p))/\w'=w:=by
 rcases hr with⟨ao,cap,rfl,rfl⟩|⟨b,off,cap,rfl,hm,hc⟩
 ·go_enter Tryz.func96,Tryz.ntmps96
  go_wp2_with fail
  go_loopw [5] (fun i wr=>i = .int .i64 0/\Hid (w=wr)) (fun _ _=>0)
  case atStart=>exact⟨rfl,yH rfl⟩
  case round =>
   obtain⟨rfl,hw⟩:=hrel;obtain rfl:=hw.out
   go_wp2_with fail
   go_ret;exact⟨rfl,rfl⟩
 obtain⟨n,hln⟩:∃n,l.length=n:=⟨_,rfl⟩;have HL:=yH hln;have HC:=yH hc;rw[hln]at hn ⊢;clear hc hln hm
 go_enter Tryz.func96,Tryz.ntmps96
 go_wp2_with fail
 go_loopw [5] (fun i wr=>∃k:Nat,k<=n/\i = .int .i64 k/\Hid (w=wr)/\Hid (p ∉ l.take k)) (fun i _=>n-(intOf i).toNat)
 case atStart=>exact⟨0,Nat.zero_le _,rfl,yH rfl,yH (by simp)⟩
 case round =>
  obtain⟨k,hk,rfl,hw,hi⟩:=hrel;obtain rfl:=hw.out;have e0:(0:Int)<=(k:Int):=Int.natCast_nonneg _;by_cases hlt:k<n
  ·have e1:(k:Int)<(n:Int):=(by omega);have hkl:k<l.length:=(by rw[HL.out];exact hlt);have hcell:=HC.out k hkl;obtain⟨q,hq⟩:∃q,l[k]=q:=⟨_,rfl⟩;rw[hq]at hcell;have HQ:=yH (show l.take (k+1)=l.take k ++ [q] by rw[List.take_succ_eq_append_getElem hkl,hq]);have HM:=yH (show q∈l by rw[←hq];exact List.getElem_mem hkl);clear hkl hq;by_cases hp:q=p
   ·have t1:=yM hp;have HE:=yH (show oQ l p=true from G9 (hp▸HM.out));clear hp
    go_wp2_with fail
    go_ret;exact⟨by rw[HE.out];rfl,rfl⟩
   ·have t1:=tZ hp;have HE:=yH (show p ∉ l.take (k+1) by rw[HQ.out,List.mem_append,List.mem_singleton];rintro(h|h);exact hi.out h;exact hp h.symm);clear hp
    go_wp2_with fail
    go_roundw
    case rel=>exact⟨k+1,by omega,by go_num,yH (by trivial),HE⟩
    case measure=>simp[intOf];omega
  ·have hk2:k=n:=(by omega);subst hk2;have HE:=yH (show oQ l p=false from TJ (by have h:=hi.out;rwa[List.take_of_length_le (by rw[HL.out];omega)]at h))
   go_wp2_with fail
   go_ret;exact⟨by rw[HE.out];rfl,rfl⟩
def mX(l:List Rec)(p:ByteArray):Int:=match l.findIdx? fun r=>decide (r.path=p)with
 | some i=>i
 | none=>-1
theorem wI(S:Nat->Prop)(v:Value)(l:List Rec)(p:ByteArray)(w:World)(hr:Op.jR S w v l)(hn:l.length<=1099511627776) :
 Calls Tryz.prog 93 #[v,.string p] w fun e w'=>e = .returned (.int .i64 (mX l p))/\w'=w:=by
 obtain⟨ao,cap,rfl,hlc,hcm,hel⟩:=hr;rcases hel with rfl|⟨b,off,rfl,hSb,hel⟩
 ·go_enter Tryz.func93,Tryz.ntmps93
  go_wp2_with fail
  go_loopw [5] (fun i wr=>i = .int .i64 0/\Hid (w=wr)) (fun _ _=>0)
  case atStart=>exact⟨rfl,yH rfl⟩
  case round =>
   obtain⟨rfl,hw⟩:=hrel;obtain rfl:=hw.out
   go_wp2_with fail
   go_ret;exact⟨rfl,rfl⟩
 obtain⟨n,hln⟩:∃n,l.length=n:=⟨_,rfl⟩;have HL:=yH hln;have HC:=yH (show ∀j (h:j<l.length),w.cell? ⟨b,off+j*39,none⟩=some (.string l[j].path)from fun j h=>by
  obtain⟨cs,h1,kv,rv,rfl,_⟩:=hel j h;exact h1 0 _ rfl)
 rw[hln]at hn hlc ⊢;clear hel hln hSb hcm
 go_enter Tryz.func93,Tryz.ntmps93
 go_wp2_with fail
 go_loopw [5] (fun i wr=>∃k:Nat,k<=n/\i = .int .i64 k/\Hid (w=wr)/\Hid (∀j (h:j<l.length),j<k->l[j].path≠p)) (fun i _=>n-(intOf i).toNat)
 case atStart=>exact⟨0,Nat.zero_le _,rfl,yH rfl,yH fun j h hj=>by omega⟩
 case round =>
  obtain⟨k,hk,rfl,hw,hi⟩:=hrel;obtain rfl:=hw.out;have e0:(0:Int)<=(k:Int):=Int.natCast_nonneg _;by_cases hlt:k<n
  ·have e1:(k:Int)<(n:Int):=(by omega);have hkl:k<l.length:=(by rw[HL.out];exact hlt);have hcell:=HC.out k hkl;obtain⟨q,hq⟩:∃q,l[k].path=q:=⟨_,rfl⟩;rw[hq]at hcell;have HQ:=yH (show ∃h:k<l.length,l[k].path=q from⟨hkl,hq⟩);clear hkl hq;by_cases hp:q=p
   ·have t1:=yM hp;have HE:=yH (show mX l p=(k:Int)from by
     obtain⟨h1,h2⟩:=HQ.out;unfold mX;have h:l.findIdx? (fun r=>decide (r.path=p))=some k:=(by rw[List.findIdx?_eq_some_iff_getElem];exact⟨h1,decide_eq_true (h2.trans hp),fun j hj=>by simpa using hi.out j (Nat.lt_trans hj h1) hj⟩);rw[h])
    clear hp
    go_wp2_with fail
    go_ret;exact⟨by rw[HE.out];rfl,rfl⟩
   ·have t1:=tZ hp;have HE:=yH (show ∀j (h:j<l.length),j<k+1->l[j].path≠p from fun j h hj=>by
     by_cases e:j=k
     ·subst e;obtain⟨_,h2⟩:=HQ.out;rw[h2];exact hp
     ·exact hi.out j h (by omega))
    clear hp
    go_wp2_with fail
    go_roundw
    case rel=>exact⟨k+1,by omega,by go_num,yH (by trivial),HE⟩
    case measure=>simp[intOf];omega
  ·have hk2:k=n:=(by omega);subst hk2;have HE:=yH (show mX l p = -1 from by
    unfold mX;have h:l.findIdx? (fun r=>decide (r.path=p))=none:=by
     rw[List.findIdx?_eq_none_iff];intro x hx;obtain⟨j,hj,rfl⟩:=List.getElem_of_mem hx;exact decide_eq_false (hi.out j hj (by have:=HL.out;omega))
    rw[h])
   go_wp2_with fail
   go_ret;exact⟨by rw[HE.out];rfl,rfl⟩
end yL

namespace yL
open Go.RowKit Mem Tr wH
theorem jT{w:World}{B B' n k:Nat}{t:TypeId}{v:Value}{xs:List Value}(h:w.ownsRow B t k v n xs)(hB:B'<=B):w.ownsRow B' t k v n xs:=by
 refine⟨h.1,h.2.imp id ?_⟩;rintro⟨g,cap,cur,h1,h2,h3⟩;exact⟨g,cap,cur,h1,Nat.le_trans hB h2,h3⟩
set_option maxRecDepth 20000 in
theorem Fg(S:Nat->Prop)(v:Value)(l:List Rec)(w:World)(hr:Op.jR S w v l)(hn:l.length<=1048576) :
 Calls Tryz.prog 95 #[v] w fun e w'=>∃out,kU.lD w out e w'/\yK out/\∀p,p∈out↔p∈l.map Rec.path:=by
 obtain⟨ao,cap,rfl,hlc,hcm,hel⟩:=hr;obtain⟨n,hln⟩:∃n,l.length=n:=⟨_,rfl⟩;have HL:=yH hln;have HC:=yH (show ∀j (h:j<l.length),∃b off,ao=some ⟨b,off,none⟩/\w.cell? ⟨b,off+j*39,none⟩=some (.string l[j].path)from fun j h=>by
  rcases hel with h0|⟨b,off,e,_,h2⟩
  ·subst h0;simp at h
  ·obtain⟨cs,h1,kv,rv,rfl,_⟩:=h2 j h;exact⟨b,off,e,h1 0 _ rfl⟩)
 rw[hln]at hn hlc ⊢;clear hel hln hcm;obtain⟨i0,hi,hz0,hz1,hz2⟩:=info_parts Make.bI
 go_enter Tryz.func95,Tryz.ntmps95
 go_wp2_with fail
 go_loopw [3,4] (fun o i wr=>∃k:Nat,k<=n/\i = .int .i64 k/\Hid (wr.ownsRow w.heap.size 9 1 o k (((l.take k).map Rec.path).map .string))/\Below w.heap.size w wr) (fun _ i _=>n-(intOf i).toNat)
 case atStart=>exact⟨0,Nat.zero_le _,rfl,yH (by simpa using World.ownsRow_nil _ _ _ _),Below.refl _ _⟩
 case round =>
  obtain⟨k,hk,rfl,hown,hb⟩:=hrel;have e0:(0:Int)<=(k:Int):=Int.natCast_nonneg _;by_cases hlt:k<n
  ·have e1:(k:Int)<(n:Int):=(by omega);have hkl:k<l.length:=(by rw[HL.out];exact hlt);obtain⟨b,off,rfl,hcw⟩:=HC.out k hkl;have hcell:wr.cell? ⟨b,off+k*39,none⟩=some (.string l[k].path):=(hb.cell (World.block_lt_of_cell? w _ hcw)).trans hcw;have HT:=yH (show l.take (k+1)=l.take k ++ [l[k]]from List.take_succ_eq_append_getElem hkl);obtain⟨q,hq⟩:∃q,l[k]=q:=⟨_,rfl⟩;rw[hq]at hcell HT;clear hq hcw hkl;have hown2:=hown.out;have hsz:=hb.size;have o9:=yH hown2
   go_wp2_with (at_builtin;go_loud (refine wpList_append_own _ rfl _ _ 27 rfl w.heap.size 9 i0 (.string ⟨#[]⟩) 1 16 Tryz.underlying27 hi hz0 hz1 hz2 rfl (by decide) _ _ _ rfl (hown2.alloc _) ⟨wr.heap.size,0,none⟩ 1 1 [.string q.path] rfl rfl (cell_one_new _ _ _) (by simp[Value.oneCell']) (by unfold maxLen;omega) (by omega) (by simp;omega) ?_;intro v' w8 aV hgrow hnil;have pg:=yH aV;have rM:=yH hgrow;clear aV hgrow hnil))
   have hba:Below wr.heap.size wr (wr.alloc (.cells #[.string q.path] 9)):=(Below.refl _ wr).alloc (Nat.le_refl _) _;have uZ:=(hb.trans (hba.mono hb.size)).grown rM.out (by have:=hba.size;omega) (fun g e=>(o9.out.lt g e).1);clear hown2
   go_roundw
   case rel=>exact⟨k+1,by omega,by go_num,yH (by rw[HT.out,List.map_append,List.map_append];exact pg.out),uZ⟩
   case measure=>simp[intOf];omega
  ·obtain rfl:k=n:=(by omega);obtain⟨a,c,rfl⟩:=Tab.aO hown.out;have HF:=yH (show wr.ownsRow w.heap.size 9 1 (.slice a k c) (l.map Rec.path).length ((l.map Rec.path).map .string) by
    have h:=hown.out;rw[List.take_of_length_le (by rw[HL.out];exact Nat.le_refl _)]at h;rw[List.length_map,HL.out];exact h)
   have hle:(l.map Rec.path).length=k:=(by rw[List.length_map,HL.out]);have Be:=yH hle;clear hle
   go_wp2_with fail;refine(Ja.Aj (.slice a k c) (l.map Rec.path) wr (by
    have h:=Strs.bU HF.out;exact h.sub (S':=fun b=>b<wr.heap.size) (fun q h1 _=>h1)) (by rw[Be.out];exact hn)).mono ?_
   rintro e w9 ⟨out,⟨v9,rfl,ho,MO⟩,hris,hm⟩;have HO:=yH (jT ho hb.size);have Jb:=yH hris;have VO:=yH hm;have hbb:=hb.trans (MO.mono hb.size);clear ho MO hris hm
   go_wp2_with fail
   go_ret;exact⟨out,⟨v9,rfl,HO.out,hbb⟩,Jb.out,VO.out⟩
end yL

namespace uI
open Go.RowKit Mem Tr St kU yL
theorem oJ{ds:List Rec}{p:ByteArray}(h:aJ.has ds p=false):mX ds p = -1:=by
 unfold mX;have h2:ds.findIdx? (fun r=>decide (r.path=p))=none:=by
  rw[List.findIdx?_eq_none_iff];intro x hx;refine decide_eq_false fun e=>?_
  have:=iT.2 ⟨x,hx,e⟩;rw[h]at this;cases this
 rw[h2]
theorem gX{ds:List Rec}{p:ByteArray}{r:Rec}(h:Sp.get Rec.path ds p=some r):∃k,∃hk:k<ds.length,mX ds p=(k:Int)/\ds[k]=r:=by
 unfold Sp.get at h;cases hf:ds.findIdx? (fun r=>decide (r.path=p))with
 | none =>
  rw[List.findIdx?_eq_none_iff]at hf;have h1:=List.mem_of_find?_eq_some h;have h2:=List.find?_some h;have h3:=hf r h1;rw[h3]at h2;cases h2
 | some k =>
  have h1:=List.findIdx?_eq_some_iff_getElem.1 hf;obtain⟨hk,h2,h3⟩:=h1;refine⟨k,hk,by unfold mX;rw[hf],?_⟩;have e:ds.find? (fun r=>decide (r.path=p))=some ds[k]:=(by rw[List.find?_eq_some_iff_getElem];exact⟨h2,k,hk,rfl,fun j hj=>by simpa using h3 j hj⟩);have:=h.symm.trans e;exact(Option.some.inj this).symm
/-- What holds of the paths got so far: the references of the first i are among them. -/
structure Cl(ds:List Rec)(roots gl:List ByteArray)(i:Nat):Prop where
 nodup:gl.Nodup
 has:∀p∈gl,aJ.has ds p=true
 reach:∀p∈gl,tY ds roots p
 roots':∀p∈roots,p∈gl
 done:∀j (h:j<gl.length),j<i->∀r,Sp.get Rec.path ds gl[j]=some r->∀q∈r.refs,q∈gl
theorem iL{α:Type}[DecidableEq α]{a:List α}(h:a.Nodup):∀ {b:List α},(∀x∈a,x∈b)->a.length<=b.length:=by
 induction a with
 | nil=>intro b _;exact Nat.zero_le _
 | cons x a ih =>
  intro b hb;rw[List.nodup_cons]at h;have h1:x∈b:=hb x (by simp);have h2:=ih h.2 (b:=b.erase x) (fun y hy=>(List.mem_erase_of_ne (fun e=>by subst e;exact h.1 hy)).2 (hb y (by simp[hy])));rw[List.length_erase_of_mem h1]at h2;have h3:=List.length_pos_of_mem h1;rw[List.length_cons];omega
theorem Fh{ds:List Rec}{gl:List ByteArray}(h:gl.Nodup)(hh:∀p∈gl,aJ.has ds p=true):gl.length<=ds.length:=by
 have:=iL h (b:=ds.map Rec.path) (fun p hp=>by
  obtain⟨r,h1,h2⟩:=iT.1 (hh p hp);exact List.mem_map.2 ⟨r,h1,h2⟩)
 rwa[List.length_map]at this
/-- Within record i: the first k of its references are among them. -/
structure J6(ds:List Rec)(roots gl:List ByteArray)(i k:Nat)(r:Rec):Prop where
 cl:Cl ds roots gl i
 at':∃h:i<gl.length,Sp.get Rec.path ds gl[i]=some r
 part:∀q∈r.refs.take k,q∈gl
theorem J6.start{ds:List Rec}{roots gl:List ByteArray}{i:Nat}{r:Rec}(c:Cl ds roots gl i)(h:i<gl.length)(hg:Sp.get Rec.path ds gl[i]=some r):J6 ds roots gl i 0 r:=⟨c,⟨h,hg⟩,fun q hq=>by simp at hq⟩
theorem J6.skip{ds:List Rec}{roots gl:List ByteArray}{i k:Nat}{r:Rec}(c:J6 ds roots gl i k r)(h:k<r.refs.length)(hin:r.refs[k]∈gl):J6 ds roots gl i (k+1) r :=
 ⟨c.cl,c.at',fun q hq=>by
  rw[List.take_succ_eq_append_getElem h,List.mem_append,List.mem_singleton]at hq;rcases hq with hq|rfl
  ·exact c.part q hq
  ·exact hin⟩
theorem J6.take{ds:List Rec}{roots gl:List ByteArray}{i k:Nat}{r:Rec}(c:J6 ds roots gl i k r)(h:k<r.refs.length)(VP:r.refs[k] ∉ gl)(hc:∀r∈ds,∀q∈r.refs,aJ.has ds q=true):J6 ds roots (gl ++ [r.refs[k]]) i (k+1) r:=by
 obtain⟨hi,hg⟩:=c.at';have hr:r∈ds/\r.path=gl[i]:=Sp.get_some hg;have hq:r.refs[k]∈r.refs:=List.getElem_mem h;refine⟨⟨?_,fun p hp=>?_,fun p hp=>?_,fun p hp=>List.mem_append_left _ (c.cl.roots' p hp),fun j hj hji r2 hg2 q hq2=>?_⟩,⟨by rw[List.length_append];omega,by rw[List.getElem_append_left hi];exact hg⟩,fun q hq2=>?_⟩
 ·rw[List.nodup_append];exact⟨c.cl.nodup,by simp,fun a ha b hb=>by simp at hb;subst hb;exact fun e=>VP (e▸ha)⟩
 ·rw[List.mem_append,List.mem_singleton]at hp;rcases hp with hp|rfl
  ·exact c.cl.has p hp
  ·exact hc r hr.1 _ hq
 ·rw[List.mem_append,List.mem_singleton]at hp;rcases hp with hp|rfl
  ·exact c.cl.reach p hp
  ·exact .step (by rw[hr.2];exact c.cl.reach _ (List.getElem_mem hi)) hr.1 hq
 ·have hj2:j<gl.length:=(by omega);rw[List.getElem_append_left hj2]at hg2;exact List.mem_append_left _ (c.cl.done j hj2 hji r2 hg2 q hq2)
 ·rw[List.take_succ_eq_append_getElem h,List.mem_append,List.mem_singleton]at hq2;rcases hq2 with hq2|rfl
  ·exact List.mem_append_left _ (c.part q hq2)
  ·exact List.mem_append_right _ (by simp)
theorem J6.done{ds:List Rec}{roots gl:List ByteArray}{i k:Nat}{r:Rec}(c:J6 ds roots gl i k r)(h:r.refs.length<=k):Cl ds roots gl (i+1):=by
 obtain⟨hi,hg⟩:=c.at';refine⟨c.cl.nodup,c.cl.has,c.cl.reach,c.cl.roots',fun j hj hji r2 hg2 q hq=>?_⟩;by_cases e:j=i
 ·subst e;have:=hg.symm.trans hg2;obtain rfl:=Option.some.inj this;exact c.part q (by rw[List.take_of_length_le h];exact hq)
 ·exact c.cl.done j hj (by omega) r2 hg2 q hq
theorem Cl.end{ds:List Rec}{roots gl:List ByteArray}{i:Nat}(c:Cl ds roots gl i)(h:gl.length<=i)(hinj:∀a∈ds,∀b∈ds,a.path=b.path->a=b)(p:ByteArray):p∈gl↔tY ds roots p:=by
 refine⟨c.reach p,fun hp=>?_⟩
 induction hp with
 | root h=>exact c.roots' _ h
 | @step r q _ hr hq ih =>
  obtain⟨j,hj,e⟩:=List.mem_iff_getElem.1 ih;have hh:=c.has _ ih;unfold aJ.has at hh;obtain⟨r2,h2⟩:=Option.isSome_iff_exists.1 hh;have h3:=Sp.get_some h2;have:r2=r:=hinj _ h3.1 _ hr h3.2;subst this;exact c.done j hj (by omega) r2 (by rw[e];exact h2) q hq
/-- Behind m roots. -/
structure J7(ds:List Rec)(roots gl:List ByteArray)(m:Nat):Prop where
 nodup:gl.Nodup
 mem:∀p,p∈gl↔p∈roots.take m
theorem J7.start(ds:List Rec)(roots:List ByteArray):J7 ds roots [] 0:=⟨List.nodup_nil,fun p=>by simp⟩
theorem J7.skip{ds:List Rec}{roots gl:List ByteArray}{m:Nat}(c:J7 ds roots gl m)(h:m<roots.length)(hin:roots[m]∈gl):J7 ds roots gl (m+1) :=
 ⟨c.nodup,fun p=>by
  rw[List.take_succ_eq_append_getElem h,List.mem_append,List.mem_singleton,←c.mem];exact⟨.inl,fun h=>h.elim id (fun e=>e▸hin)⟩⟩
theorem J7.take{ds:List Rec}{roots gl:List ByteArray}{m:Nat}(c:J7 ds roots gl m)(h:m<roots.length)(VP:roots[m] ∉ gl):J7 ds roots (gl ++ [roots[m]]) (m+1) :=
 ⟨by rw[List.nodup_append];exact⟨c.nodup,by simp,fun a ha b hb=>by simp at hb;subst hb;exact fun e=>VP (e▸ha)⟩,fun p=>by
  rw[List.take_succ_eq_append_getElem h,List.mem_append,List.mem_append,c.mem]⟩
theorem J7.done{ds:List Rec}{roots gl:List ByteArray}{m:Nat}(c:J7 ds roots gl m)(h:roots.length<=m)(hr:∀p∈roots,aJ.has ds p=true):Cl ds roots gl 0:=by
 have e:∀p,p∈gl↔p∈roots:=fun p=>by rw[c.mem,List.take_of_length_le h]
 exact⟨c.nodup,fun p hp=>hr p ((e p).1 hp),fun p hp=>.root ((e p).1 hp),fun p hp=>(e p).2 hp,fun j hj h0=>by omega⟩
end uI

namespace uI
open Go.RowKit Mem Tr St kU yL DVa
open Go.Proofs.YtmmmghpimdfleaaGreatDoor.Own
open Go.Proofs.YtmmmghpimdfleaaGreatDoor.kD (dZ iZ)
/-- A ak store in memory. -/
def mY(w:World)(v:Value)(ds:List Rec):Prop:=Op.jR (fun b=>b<w.heap.size) w v ds/\∀n c,v = .slice none n c->c=0
theorem mY.below{w w':World}{v:Value}{ds:List Rec}(h:mY w v ds)(hb:Below w.heap.size w w'):mY w' v ds :=
 ⟨(h.1.below hb).mono fun b hbb=>Nat.lt_of_lt_of_le hbb hb.size,h.2⟩
/-- A ak store whose blocks all lie from B on. -/
def jU(B:Nat)(w:World)(v:Value)(ds:List Rec):Prop:=Op.jR (fun b=>B<=b/\b<w.heap.size) w v ds/\∀n c,v = .slice none n c->c=0
theorem jU.below{B:Nat}{w w':World}{v:Value}{ds:List Rec}(h:jU B w v ds)(hb:Below w.heap.size w w'):jU B w' v ds :=
 ⟨(h.1.below hb).mono fun b hbb=>⟨hbb.1,Nat.lt_of_lt_of_le hbb.2 hb.size⟩,h.2⟩
theorem jU.D{B:Nat}{w:World}{v:Value}{ds:List Rec}(h:jU B w v ds):mY w v ds:=⟨h.1.mono fun _ hb=>hb.2,h.2⟩
theorem jU.nil(B:Nat)(w:World):jU B w (.slice none 0 0) []:=⟨⟨none,0,rfl,Nat.le_refl _,by unfold maxLen;omega,.inl rfl⟩,fun n c h=>by injection h with _ _ h3;exact h3.symm⟩
def lU(B:Nat)(w:World)(n:Int)(ds:List Rec)(e:Ending)(w':World):Prop:=∃v',e = .returned (.tuple #[v',.int .i64 n])/\jU B w' v' ds/\Below w.heap.size w w'
/-- The rows of a list of records. -/
theorem Jc{S:Nat->Prop}{w:World}{b off:Nat}{l:List Rec}(h:∀j (h:j<l.length),∃cs,w.rangeAt b (off+j*39) cs/\aT S w cs l[j]) :
 ∃xs,dG S w xs l/\(∀j u,xs[j]? = some u->w.cell? ⟨b,off+j,none⟩=some u)/\∀u∈xs,u.oneCell'=true:=by
 have key:∀k,k<=l.length->∃xs,dG S w xs (l.take k)/\(∀j u,xs[j]? = some u->w.cell? ⟨b,off+j,none⟩=some u)/\∀u∈xs,u.oneCell'=true:=by
  intro k
  induction k with
  | zero=>intro _;exact⟨[],by rw[List.take_zero];exact dG.nil _ _,fun j u h=>by simp at h,fun u h=>by cases h⟩
  | succ k ih =>
   intro hk;obtain⟨xs,h1,h2,h3⟩:=ih (by omega);obtain⟨cs,h4,h5⟩:=h k (by omega);have hxl:xs.length=39*k:=(by have:=h1.len;rw[List.length_take]at this;omega);refine⟨xs++cs,by rw[List.take_succ_eq_append_getElem (by omega)];exact h1.snoc h5,fun j u hj=>?_,fun u hu=>?_⟩
   ·by_cases hjl:j<xs.length
    ·rw[List.getElem?_append_left hjl]at hj;exact h2 j u hj
    ·rw[List.getElem?_append_right (by omega)]at hj;have:=h4 (j-xs.length) u hj;rwa[show off+k*39+(j-xs.length)=off+j by omega]at this
   ·rcases List.mem_append.1 hu with hu|hu
    ·exact h3 u hu
    ·exact Tab.dX h5 u hu
 obtain⟨xs,h1,h2,h3⟩:=key l.length (Nat.le_refl _);exact⟨xs,by rwa[List.take_length]at h1,h2,h3⟩
/-- append(own, given...) of records. -/
theorem MP{S:Nat->Prop}{w:World}{B c:Nat}{a:Nat}{rv:Value}{l:List Rec}(hown:w.ownsRow B 31 39 (.slice (some ⟨a,0,none⟩) 0 c) 0 [])(hr:Op.jR S w rv l)(hcap:∀n c,rv = .slice none n c->c=0)(hS:∀b,S b->b<w.heap.size/\b≠a)(hn:l.length<=1048576)(hB:B<=w.heap.size) :
 ∃v' w' xs,(Builtin.append_ #[22,22] 22 #[.slice (some ⟨a,0,none⟩) 0 c,rv]).run Tryz.prog w = .ok v' w'/\w'.ownsRow B 31 39 v' l.length xs/\dG S w' xs l/\w.grownBy w' (some a)/\(v'.ownBlock=some a∨v'.ownBlock=some w.heap.size):=by
 obtain⟨i0,hi,hz0,hz1,hz2⟩:=info_parts Ins.fO;obtain⟨ao,cap,rfl,hl,hm,hk⟩:=hr;cases ao with
 | none =>
  obtain rfl:=hcap _ _ rfl;obtain rfl:l = []:=List.eq_nil_of_length_eq_zero (by omega);exact⟨_,w,[],run_append_owned_none (P:=Tryz.prog) w B _ _ 31 i0 39 Tryz.underlying22 hi _ 0 [] hown,hown,dG.nil _ _,⟨rfl,rfl,rfl,Nat.le_refl _,fun _ _ _=>rfl⟩,.inl rfl⟩
 | some ad =>
  have hrows:∃xs,dG S w xs l/\(∀j u,xs[j]? = some u->w.cell? (ad.add j)=some u)/\∀u∈xs,u.oneCell'=true:=by
   rcases hk with rfl|⟨b,o,e1,e2,e3⟩
   ·exact⟨[],dG.nil _ _,fun j u h=>by simp at h,fun u h=>by cases h⟩
   ·cases e1
    obtain⟨xs,h1,h2,h3⟩:=Jc e3;exact⟨xs,h1,fun j u h=>by rw[Go.WideShapes.add_plain];exact h2 j u h,h3⟩
  obtain⟨xs,h1,h2,h3⟩:=hrows;obtain⟨v',w',r1,r2,r3,_,r5⟩:=run_append_own_at (P:=Tryz.prog) w B 22 22 31 i0 Ins.ah 39 136 Tryz.underlying22 hi hz0 hz1 hz2 rfl (by decide) _ 0 [] hown ad l.length cap xs (by rw[h1.len];omega) h2 h3 (by unfold maxLen;omega) (by omega) hB;rw[Nat.zero_add]at r2;refine⟨v',w',xs,r1,r2,h1.ag (fun q hs hq=>r3.block q hq (fun e=>(hS q hs).2 (show q=a from Option.some.inj e))),r3,?_⟩;exact r5
set_option maxRecDepth 20000 in
theorem insertC(B:Nat)(v:Value)(ds:List Rec)(r:Rec)(cs:List Value)(w:World)(BU:B<=w.heap.size)(h:jU B w v ds)(hr:aT (fun b=>b<w.heap.size) w cs r)(hcap:∀kv n cap,cs=r.cells kv (.slice none n cap)->cap=0)(hb:r.bulk<=2097152)(hbd:∀x∈ds,x.bulk<=4194304)(hn:ds.length<=1048575) :
 Calls Tryz.prog 59 #[v,.agg cs.toArray] w (lU B w (aJ.eY dZ iZ ds r) (l9 dZ iZ ds r)):=by
 have HD:=yH h;have VQ:=yH hr;have HCAP:=yH hcap;have HB:=yH hb;have HLO:=yH BU;have PM:=yH hbd;have xI:=yH hr.length;have HOC:=yH (Tab.dX hr);obtain⟨Fj,cap0,rfl,_,_,_⟩:=h.1;obtain⟨d,hd⟩:∃d,ds.length=d:=⟨_,rfl⟩;have nN:=yH hd;rw[hd]at hn HD ⊢;obtain⟨kv,rv,hcs,hh,hk,hrr⟩:=hr;have HR:=yH hrr;obtain⟨ao,cap,rfl,_,_,_⟩:=hk;obtain⟨dL,cap2,rfl,_,_,_⟩:=hrr;have wG:=yH hcs.symm;have F1:=iV (w:=w) (z:=cs.toArray) (t:=31) rfl;have r0:(w.alloc (.cells cs.toArray 31)).rangeAt w.heap.size 0 cs:=(by have:=F1.2.1.range;simpa using this);clear hcs hb h hcap hbd F1 hd BU
 go_enter Tryz.func59,Tryz.ntmps59
 go_wp2_with (refine wpList_load_mid rfl 31 _ (by rfl) w.heap.size 0 (by rfl) cs _ r0 Tryz.underlying31 rfl (by rw[xI.out];kernel_rfl) ?_)
 refine ae fun w1 hw1=>?_
 obtain⟨b1,x1⟩:=af hw1;have X1:=yH (show RB w1 w.heap.size r (.slice ao r.tree.kids.len cap) (.slice dL r.refs.length cap2)from⟨by rw[wG.out];exact x1,hh⟩);have Y1:=yH x1;clear hw1 x1 r0;refine(DVa.vX (fun b=>b<w.heap.size) r cs w1 (VQ.out.below b1) (fun b hb=>Nat.lt_of_lt_of_le hb b1.size) HB.out).mono ?_;rintro e w2 ⟨rfl,b2⟩;have B2:=b1.trans (b2.mono b1.size);have X2:=yH (X1.out.below b2);have Y2:=yH (Y1.out.below b2);obtain⟨vv,hv⟩:∃v,aJ.bP dZ iZ r=v:=⟨_,rfl⟩;rw[hv];have HV:=yH hv;clear hv;by_cases h1:vv=0
 case neg =>
  have t1:(vv != 0)=true:=(by simpa using h1);have e1:aJ.eY dZ iZ ds r=vv:=(by unfold aJ.eY;rw[HV.out,if_neg h1]);have e2:l9 dZ iZ ds r=ds:=(by unfold l9;rw[e1,if_neg h1]);have qo:=yH e1;have HE2:=yH e2;clear h1 e1 e2
  go_wp2_with fail
  go_ret2;rw[qo.out,HE2.out];exact⟨_,rfl,HD.out.below B2,B2⟩
 subst h1;obtain⟨n,hnn⟩:∃n,r.refs.length=n:=⟨_,rfl⟩;have hnb:n<=4194304:=(by have:=dI r.refs;have:=HB.out;unfold Rec.bulk at this;omega);rw[hnn]at HR X1 X2 wG;have HN:=yH hnn;have g5:=X2.out.c5;have Ej:=yH (show ∀q W,Below w.heap.size w W->Calls Tryz.prog 93 #[.slice Fj d cap0,.string q] W fun e w'=>e = .returned (.int .i64 (mX ds q))/\w'=W from fun q W hb=>wI _ _ ds q W (HD.out.1.below hb) (by have:=nN.out;omega));clear hnn
 go_wp2_with fail
 go_loopw [7] (fun i wr=>∃k:Nat,k<=n/\i = .int .i64 k/\Hid (∀j (h:j<r.refs.length),j<k->r.refs[j]=r.path∨aJ.has ds r.refs[j]=true)/\Below w.heap.size w wr/\Below w1.heap.size w1 wr) (fun i _=>n-(intOf i).toNat)
 case atStart=>exact⟨0,Nat.zero_le _,rfl,yH (fun j _ hj=>absurd hj (Nat.not_lt_zero _)),B2,b2⟩
 case round =>
  obtain⟨k,hk,rfl,hall,br,bq⟩:=hrel;have g5:=(X1.out.below bq).c5;by_cases hlt:k<n
  ·obtain⟨rb,ro,wJ,nR,hcells⟩:=fP (HR.out.below br) (by rw[HN.out];omega);injection nR with ji gY jk;subst ji;clear gY jk;have hkl:k<r.refs.length:=(by rw[HN.out];exact hlt);have gk:=hcells k hkl;obtain⟨q,hq⟩:∃q,r.refs[k]=q:=⟨_,rfl⟩;rw[hq]at gk;have HQ:=yH hq;have e0:(0:Int)<=(k:Int):=Int.natCast_nonneg _;have e1:(k:Int)<(n:Int):=(by omega);have cpr:=(X1.out.below bq).c0;have He:=yH (show(r.refs[k]=r.path∨aJ.has ds r.refs[k]=true)->∀j (h:j<r.refs.length),j<k+1->r.refs[j]=r.path∨aJ.has ds r.refs[j]=true from fun hh j h hj=>by
    by_cases hjk:j<k
    ·exact hall.out j h hjk
    ·obtain rfl:j=k:=(by omega);exact hh)
   clear hcells hq;by_cases qN:q=r.path
   ·have tt:(q.toList==r.path.toList)=true:=(by rw[Eq.bytes_beq];exact decide_eq_true qN);have bF:=yH (He.out (.inl (by rw[HQ.out];exact qN)));clear qN
    go_wp2_with fail
    go_quiet (fail)
    go_wp2_with fail
    go_roundw
    case rel=>exact⟨k+1,by omega,by go_num,bF,Tab.below_drewN br _,Tab.below_drewN bq _⟩
    case measure=>simp[intOf];omega
   ·have tt:(q.toList==r.path.toList)=false:=(by rw[Eq.bytes_beq];exact decide_eq_false qN);have hF:=Ej.out q;by_cases hq2:aJ.has ds q=true
    ·have bF:=yH (He.out (.inr (by rw[HQ.out];exact hq2)));unfold aJ.has at hq2;obtain⟨old,hold⟩:=Option.isSome_iff_exists.1 hq2;obtain⟨z,_,hz,_⟩:=gX hold;rw[hz]at hF;have hz0:¬(z:Int)<0:=(by omega);have HF:=yH hF;have zcO:=br.drew;clear qN hq2 hold hz hF
     go_wp2_with fail
     go_quiet ((go_at_call 93;refine Calls.quiet_of_same (HF.out _ (by first|assumption|exact br.drew|exact Tab.below_drewN br _))));have Yl:Below w.heap.size w (wr.drewN nq):=Tab.below_drewN br _;have bq3:Below w1.heap.size w1 (wr.drewN nq):=Tab.below_drewN bq _
     go_wp2_with fail
     go_roundw
     case rel=>exact⟨k+1,by omega,by go_num,bF,Yl,bq3⟩
     case measure=>simp[intOf];omega
    ·have hq3:aJ.has ds q=false:=(by cases hh:aJ.has ds q;rfl;exact absurd hh hq2);rw[oJ hq3]at hF;have HF:=yH hF;have hl:aJ.lacks ds r=true:=(by unfold aJ.lacks;rw[List.any_eq_true];exact⟨q,by rw[←HQ.out];exact List.getElem_mem _,by rw[decide_eq_true qN,hq3];rfl⟩);have qo:=yH (show aJ.eY dZ iZ ds r=3 by unfold aJ.eY;rw[if_pos HV.out,hl,if_pos rfl]);have HE2:=yH (show l9 dZ iZ ds r=ds by unfold l9;rw[if_neg (by rw[qo.out];decide)]);have zcO:=br.drew;clear hl hq2 hq3 qN hF
     go_wp2_with fail
     go_quiet ((go_at_call 93;refine Calls.quiet_of_same (HF.out _ (by first|assumption|exact br.drew|exact Tab.below_drewN br _))));have hbz:Below w.heap.size w (wr.drewN nq):=Tab.below_drewN br _
     go_wp2_with fail
     go_ret2;rw[qo.out,HE2.out];exact⟨_,rfl,HD.out.below hbz,hbz⟩
  ·obtain rfl:k=n:=(by omega);have hl0:aJ.lacks ds r=false:=by
    unfold aJ.lacks;rw[List.any_eq_false];intro q hq;obtain⟨j,hj,rfl⟩:=List.getElem_of_mem hq;rcases hall.out j hj (by rw[←HN.out];exact hj)with h|h
    ·simp[h]
    ·simp[h]
   have HL0:=yH hl0;clear hl0;have cpr:=(X1.out.below bq).c0;cases hg:Sp.get Rec.path ds r.path with
   | some old =>
    have HG:=yH hg;obtain⟨z,hzl,hz,TK⟩:=gX hg;have VR:=Ej.out r.path wr br;rw[hz]at VR;have hEO:=yH (show aJ.eY dZ iZ ds r=if Jd old r=true then 0 else 8 by
     unfold aJ.eY;rw[if_pos HV.out,HL0.out,if_neg (by decide),HG.out];unfold Jd;by_cases h:old=r
     ·simp[h]
     ·simp[h])
    have HE2:=yH (show l9 dZ iZ ds r=ds by unfold l9;rw[HG.out];split<;>rfl);have hold:=Sp.get_some hg;have PU:=yH (show old.bulk<=4194304 from PM.out _ hold.1);obtain⟨ad,MQ,hvd,_,_,hkd⟩:=HD.out.1;injection hvd with hv1 hv2 hv3;subst hv1;rcases hkd with h0|⟨rb,ro,hrb,hSb,hkd⟩
    ·rw[h0]at hzl;simp at hzl
    subst hrb;obtain⟨oc,hrg,hrec⟩:=hkd z hzl;rw[TK]at hrec;have HOR:=yH (hrec.below br);have HRR:=yH ((VQ.out.below b1).below bq);have hol:=hrec.length;have pR:wr.rangeAt rb (ro+z*39) oc:=St.fD hrg br;have zaK:wr.rangeAt w.heap.size 0 cs:=(by have:=(Y1.out.below bq).range;simpa using this);have z0:(0:Int)<=(z:Int):=Int.natCast_nonneg _;have z1:(z:Int)<(d:Int):=(by have:=nN.out;omega);clear hg hold hkd hrg hrec TK hz hv2 hv3 hSb
    go_wp2_with fail;refine VR.mono ?_;rintro e w3 ⟨rfl,hw⟩;rw[hw];clear hw w3;have hS0:wr.drew.rangeAt rb (ro+z*39) oc/\wr.drew.rangeAt w.heap.size 0 cs:=⟨pR,zaK⟩;have hu:=Tryz.underlying31;have TL:(Tryz.prog.info? 31).map (·.size)=some oc.length:=(by rw[hol];kernel_rfl);have TM:(Tryz.prog.info? 31).map (·.size)=some cs.length:=(by rw[xI.out];kernel_rfl);clear VR pR zaK hzl
    go_wp2_with fail;refine wp_region_held_drew (S:=fun W'=>W'.rangeAt rb (ro+z*39) oc/\W'.rangeAt w.heap.size 0 cs) (by kernel_rfl) hS0 (fun hHeld=>?_);refine yT 0 ?_;refine yT 1 ?_;refine yT 2 ?_;refine' wpAnyH_take (i:=3) (v:=_) rfl (by kernel_rfl) (by kernel_rfl) (by kernel_rfl) (fun _ _ _ h=>h) (yieldsIf_load_mid (by rfl) _ _ rfl _ _ rfl _ _ ?hSA ?huA ?hdA ?hiA) (by assumption) ?zeb
    case hSA=>(intro w hSw;exact hSw.1)
    case huA=>exact hu
    case hdA=>rfl
    case hiA=>first|exact TL|exact TM|kernel_rfl
    simp only[Act.put,yP];refine' wpAnyH_take (i:=4) (v:=_) rfl (by kernel_rfl) (by kernel_rfl) (by kernel_rfl) (fun _ _ _ h=>h) (yieldsIf_load_mid (by rfl) _ _ rfl _ _ rfl _ _ ?hSB ?huB ?hdB ?hiB) (by assumption) ?zec
    case hSB=>(intro w hSw;exact hSw.2)
    case huB=>exact hu
    case hdB=>rfl
    case hiB=>first|exact TL|exact TM|kernel_rfl
    simp only[Act.put,yP];refine yR 5 (fun K hK=>?_)
    go_simp
    go_at_call 29;refine(MR _ _ old r oc cs wr.drew (HOR.out.below (Below.refl _ wr).drew) (HRR.out.below (Below.refl _ wr).drew) PU.out).mono ?_;rintro e w5 ⟨rfl,b5⟩;have c5:Below wr.heap.size wr w5:=Copy.ax b5;have hS5:w5.rangeAt rb (ro+z*39) oc/\w5.rangeAt w.heap.size 0 cs:=⟨St.fD (w:=wr) hS0.1 c5,St.fD (w:=wr) hS0.2 c5⟩;have B5:=br.trans (c5.mono br.size);refine hK.out _ _ hS5 (fun hHeld=>?_);clear hK K;refine yT 6 ?_;refine wpAnyH_done (by kernel_rfl) ?_ _;clear hHeld hS0 hS5;obtain⟨E,hE⟩:∃E,Jd old r=E:=⟨_,rfl⟩;rw[hE]at hEO ⊢;clear hE;cases E with
    | true =>
     go_wp2_with fail
     go_ret2;rw[hEO.out,HE2.out];exact⟨_,rfl,HD.out.below B5,B5⟩
    | false =>
     go_wp2_with fail
     go_ret2;rw[hEO.out,HE2.out];exact⟨_,rfl,HD.out.below B5,B5⟩
   | none =>
    have HG:=yH hg;have hh0:aJ.has ds r.path=false:=(by unfold aJ.has;rw[hg];rfl);have VR:=Ej.out r.path wr br;rw[oJ hh0]at VR;have qo:=yH (show aJ.eY dZ iZ ds r=0 by unfold aJ.eY;rw[if_pos HV.out,HL0.out,if_neg (by decide),HG.out]);have HE2:=yH (show l9 dZ iZ ds r=ds ++ [r] by unfold l9;rw[if_pos qo.out,HG.out]);obtain⟨i0,hi,hz0,hz1,hz2⟩:=info_parts Ins.fO;have HW:=yH br.size;clear hg hh0
    go_wp2_with fail;refine VR.mono ?_;rintro e w3 ⟨rfl,hw⟩;rw[hw];clear hw w3;clear VR;have hsz:wr.heap.size<=wr.heap.size:=Nat.le_refl _;have MJ:=yH (HD.out.1.below br)
    go_wp2_with (at_make;refine wpList_make_own _ rfl _ _ 22 rfl wr.heap.size 31 i0 Ins.ah 39 Tryz.underlying22 hi hz0 hz1 .i64 .i64 _ (d+1) rfl rfl ?c1 ?c2 ?c3 ?c4 ?_)
    case c1=>first|rfl|(push_cast;rfl)|simp
    case c2=>rw[hz2];omega
    case c3=>unfold maxLen;omega
    case c4=>simp
    intro w5 hown5 hg5;have k5:Kp (fun b=>b=wr.heap.size) wr w5:=Kp.fA hg5 (fun q e _=>by cases e);have z5:wr.heap.size<w5.heap.size:=(hown5.lt wr.heap.size rfl).2;have hbs:=br.size;have VS:Below w.heap.size w w5:=br.trans (k5.below hbs (fun i hi e=>by omega));have HDW:=yH (HD.out.1.below VS);obtain⟨v6,w6,xs,hrun,hown6,MS,Hg,zaL⟩:=MP (S:=fun b=>B<=b/\b<w.heap.size) hown5 HDW.out HD.out.2 (fun b hb=>⟨by omega,by omega⟩) (by have:=nN.out;omega) (by omega);rw[nN.out]at hown6;obtain⟨a6,c6,rfl⟩:=Tab.aO hown6;have iD:Kp (fun b=>b=wr.heap.size) w5 w6:=Kp.fA Hg (fun q e _=>(Option.some.inj e).symm);have k6:Kp (fun b=>b=wr.heap.size) wr w6:=k5.then iD;have z6:=iD.size;have PN:Below w.heap.size w w6:=br.trans (k6.below hbs (fun i hi e=>by omega));have hlw:w.heap.size<wr.heap.size:=((X1.out.below bq).bx).lt;have hr6:w6.rangeAt w.heap.size 0 cs:=by
     have:=(((Y1.out.below bq).kp k6 (by omega))).range
     simpa using this
    have J8:=yH hown6;have zI:=yH MS;have HAT:=yH zaL;have zcP:=yH (VQ.out.below PN);have hu:=Tryz.underlying31;clear hown6 MS zaL hown5 hg5 Hg
    go_wp2_with (first
     | (at_builtin;go_loud (refine Twin.wpList_append_run rfl _ _ 22 rfl _ _ _ _ rfl rfl hrun ?_))
     | (refine wpList_load_mid rfl 31 _ (by rfl) w.heap.size 0 (by rfl) cs _ hr6 hu rfl (by rw[xI.out];kernel_rfl) ?_))
    refine(Twin.zaM (fun b=>b<w.heap.size) r cs w6 zcP.out HCAP.out HB.out).mono ?_;rintro e w7 ⟨cs7,rfl,Hl,b7⟩;have zaN:=Hl.rec.length;have zcQ:=Tab.dX Hl.rec;have zaO:=yH Hl.rec;have zcR:=Copy.own_below J8.out b7;have z7:=b7.size;clear hrun hr6 Hl
    go_wp2_with (at_builtin;rw[qO cs7 _ (by rw[zaN];rfl)];go_loud (refine wpList_append_own_at _ rfl _ _ 22 rfl wr.heap.size 31 i0 Ins.ah 39 136 Tryz.underlying22 hi hz0 hz1 hz2 rfl (by decide) _ _ _ rfl (zcR.alloc _) ⟨w7.heap.size,0,none⟩ 1 1 cs7 rfl (by rw[zaN]) (by have:=World.news_of_block (cs:=cs7.toArray) (t:=31) (fr:=(0,0)) (heap_alloc_new w7 _);simpa using this) zcQ (by unfold maxLen;omega) (by omega) (by simp;omega) ?_;intro v' w9 fV hgrow hnil hat;have HN9:=yH fV;have HG9:=yH hgrow;have zew:=yH hat;clear fV hgrow hnil hat))
    go_ret2;rw[qo.out,HE2.out];have hba:Below w7.heap.size w7 (w7.alloc (.cells cs7.toArray 31)):=(Below.refl _ w7).alloc (Nat.le_refl _) _;have k79:Kp (fun b=>(Value.slice a6 d c6).ownBlock=some b) w7 w9:=(Kp.of_below hba).then (Kp.fA HG9.out (fun r e _=>e));have hold:∀b,(Value.slice a6 d c6).ownBlock=some b->wr.heap.size<=b/\b<w6.heap.size:=fun b e=>J8.out.lt b e
    have br7:Below w.heap.size w w7:=PN.trans (b7.mono PN.size);have br9:Below w.heap.size w w9:=br7.trans (k79.below br7.size (fun i hi e=>by have:=(hold i e).1;omega));have z9:=k79.size;obtain⟨a9,c9,rfl⟩:=Tab.aO HN9.out;have hq1:=(zI.out.ag (Ag.of_below b7)).ag (Ag.bg k79 (fun b _ hS hM=>by have h0:b<w.heap.size:=hS.2;have:=(hold b hM).1;omega));have hq2:=zaO.out.ag (Ag.bg k79 (fun b _ hS hM=>by have h0:w6.heap.size<=b:=hS;have:=(hold b hM).2;omega));have hlo:=HLO.out;have hrows:=(hq1.mono (S':=fun b=>B<=b/\b<w9.heap.size) (fun b hb=>by have h0:b<w.heap.size:=hb.2;exact⟨hb.1,by omega⟩)).snoc (hq2.sub (S':=fun b=>B<=b/\b<w9.heap.size) (fun b hb hs=>⟨by have h0:w6.heap.size<=b:=hs;have:=PN.size;omega,hb⟩));have TN:(ds ++ [r]).length=d+1:=(by rw[List.length_append,nN.out];rfl);refine⟨_,rfl,⟨?_,fun n c e=>?_⟩,br9⟩
    ·have h1:=HN9.out;rw[←TN]at h1;have h2:=Ho h1 hrows (fun b hb=>⟨by have h0:=(h1.lt b hb).1;have:=br.size;omega,(h1.lt b hb).2⟩);rw[TN]at h2;exact h2
    ·rcases HN9.out.2 with⟨_,h0⟩|⟨g,cap,cur,hv,_⟩
     ·omega
     ·rw[hv]at e;cases e
set_option maxRecDepth 20000 in
theorem VT(v:Value)(l:List Rec)(w:World)(hr:Op.jQ (fun b=>b<w.heap.size) w v l)(hb:Op.gJ l<=2097152) :
 Calls Tryz.prog 42 #[v] w fun e w'=>∃v',e = .returned v'/\jU w.heap.size w' v' (jh dZ iZ [] l)/\Below w.heap.size w w':=by
 obtain⟨ao,cap,rfl,hlc,hcm,hel⟩:=id hr;have HR:=yH hr;have HB:=yH hb;have hll:=sK l;have hnl:l.length<=1048576:=(by omega);obtain⟨n,hn⟩:∃n,l.length=n:=⟨_,rfl⟩;rw[hn]at hnl ⊢;have HN:=yH hn;clear hr hb hlc hcm hel hll hn
 go_enter Tryz.func42,Tryz.ntmps42
 go_wp2_with fail
 go_loopw [3,4] (fun s i wr=>∃k:Nat,k<=n/\i = .int .i64 k/\Hid (jU w.heap.size wr s (jh dZ iZ [] (l.take k)))/\Below w.heap.size w wr) (fun _ i _=>n-(intOf i).toNat)
 case atStart=>exact⟨0,Nat.zero_le _,rfl,yH (by rw[List.take_zero];exact jU.nil _ w),Below.refl _ _⟩
 case round =>
  obtain⟨k,hk,rfl,hst,br⟩:=hrel;by_cases hlt:k<n
  ·have hkl:k<l.length:=(by rw[HN.out];exact hlt);obtain⟨a2,c2,hv2,_,_,hel⟩:=HR.out.below br;rcases hel with h0|⟨rb,ro,ha,_,hel⟩
   ·rw[h0]at hkl;simp at hkl
   injection hv2 with e1 e2 e3;rw[ha]at e1;subst e1;clear e2 e3;obtain⟨cs,hrg,hrec,hcap⟩:=hel k hkl;have hcl:=hrec.length;have e0:(0:Int)<=(k:Int):=Int.natCast_nonneg _;have e1:(k:Int)<(n:Int):=(by omega);have MV:=yH (CU (rc:=dZ) (st:=iZ) [] l k hkl);have hbk:l[k].bulk+2<=Op.gJ l:=jy (List.getElem_mem hkl);have hbb:=HB.out;have hdl:=Fe (rc:=dZ) (st:=iZ) (l.take k) [];rw[List.length_take,List.length_nil]at hdl;have hI:=insertC w.heap.size u3 (jh dZ iZ [] (l.take k)) l[k] cs wr br.size hst.out (hrec.sub fun b _ hb=>Nat.lt_of_lt_of_le hb br.size) hcap (by omega) (fun x hx=>by
    rcases Ff (l.take k) [] x hx with h|h
    ·cases h
    ·have:=jy (List.mem_of_mem_take h);omega) (by omega)
   have HI:=yH hI;clear hel hrec hcap ha hI hdl hst hbk hbb
   go_wp2_with (refine wpList_load_mid rfl 31 _ (by rfl) rb (ro+k*39) (by rfl) cs _ hrg Tryz.underlying31 rfl (by rw[hcl];kernel_rfl) ?_)
   refine HI.out.mono ?_;rintro e w2 ⟨v2,rfl,hD,b2⟩;have HD2:=yH hD;have B2:=br.trans (b2.mono br.size);clear hD hrg HI
   go_wp2_with fail
   go_roundw
   case rel=>exact⟨k+1,by omega,by go_num,yH (by rw[MV.out];exact HD2.out),B2⟩
   case measure=>simp[intOf];omega
  ·obtain rfl:k=n:=(by omega)
   go_wp2_with fail
   go_ret;have h:=hst.out;rw[List.take_of_length_le (by rw[HN.out];exact Nat.le_refl _)]at h;exact⟨_,rfl,h,br⟩
end uI

namespace uI
open Go.RowKit Mem Tr St kU yL
open Go.Proofs.YtmmmghpimdfleaaGreatDoor.Own
def QD(w:World)(ds:List Rec)(roots:List ByteArray)(e:Ending)(w':World):Prop :=
 ∃v L,e = .returned (.tuple #[v,.int .i64 0])/\w'.ownsRow w.heap.size 9 1 v L.length (L.map .string)/\wH.yK L/\(∀p,p∈L↔tY ds roots p)/\Below w.heap.size w w'
set_option maxRecDepth 20000 in
theorem wK(v rv:Value)(ds:List Rec)(roots:List ByteArray)(w:World)(h:mY w v ds)(hro:Strs (fun b=>b<w.heap.size) w rv roots)(hn:ds.length<=1048576)(hrn:roots.length<=1048576)(hh:∀p∈roots,aJ.has ds p=true)(hc:∀r∈ds,∀q∈r.refs,aJ.has ds q=true)(hinj:∀a∈ds,∀b∈ds,a.path=b.path->a=b)(hbd:∀x∈ds,x.bulk<=4194304) :
 Calls Tryz.prog 94 #[v,rv] w (QD w ds roots):=by
 have HD:=yH h;have J9:=yH hro;have HH:=yH hh;have HC:=yH hc;have MW:=yH hinj;have PM:=yH hbd;obtain⟨Fj,cap0,rfl,_,_,_⟩:=h.1;obtain⟨d,hd⟩:∃d,ds.length=d:=⟨_,rfl⟩;have nN:=yH hd;rw[hd]at hn HD ⊢;obtain⟨ao,cap,rfl,_,_,_⟩:=hro;obtain⟨m,hm⟩:∃m,roots.length=m:=⟨_,rfl⟩;have HM:=yH hm;rw[hm]at hrn J9 ⊢;have Ej:=yH (show ∀q W,Below w.heap.size w W->Calls Tryz.prog 93 #[.slice Fj d cap0,.string q] W fun e w'=>e = .returned (.int .i64 (mX ds q))/\w'=W from fun q W hb=>wI _ _ ds q W (HD.out.1.below hb) (by have:=nN.out;omega));obtain⟨i0,hi,hz0,hz1,hz2⟩:=info_parts Make.bI;clear h hh hc hinj hbd hd hm
 go_enter Tryz.func94,Tryz.ntmps94
 go_wp2_with fail
 go_loopw [6,7] (fun o i wr=>∃(k g:Nat) (a:Option Addr) (c:Nat) (gl:List ByteArray),k<=m/\i = .int .i64 k/\o = .slice a g c/\Hid (gl.length=g)/\Hid (wr.ownsRow w.heap.size 9 1 (.slice a g c) g (gl.map .string))/\Hid (J7 ds roots gl k)/\g<=m/\Below w.heap.size w wr) (fun _ i _=>m-(intOf i).toNat)
 case atStart=>exact⟨0,0,none,0,[],Nat.zero_le _,rfl,rfl,yH rfl,yH (by simpa using World.ownsRow_nil _ _ _ _),yH (J7.start _ _),Nat.zero_le _,Below.refl _ _⟩
 case round =>
  obtain⟨k,g,a,c,gl,hk,rfl,rfl,iU,HOW,xI,hgm,hb⟩:=hrel;have e0:(0:Int)<=(k:Int):=Int.natCast_nonneg _;by_cases hlt:k<m
  ·have e1:(k:Int)<(m:Int):=(by omega);have hkl:k<roots.length:=(by rw[HM.out];exact hlt);obtain⟨rb,ro,wJ,nR,hcells⟩:=fP (J9.out.below hb) (by omega);injection nR with ji gY jk;subst ji;clear gY jk;have gk:=hcells k hkl;obtain⟨q,hq⟩:∃q,roots[k]=q:=⟨_,rfl⟩;rw[hq]at gk;have HQ:=yH hq;have MX:aJ.has ds q=true:=HH.out q (by rw[←hq];exact List.getElem_mem hkl);unfold aJ.has at MX;obtain⟨r,hr⟩:=Option.isSome_iff_exists.1 MX;obtain⟨z,_,hz,_⟩:=gX hr;have hF:=Ej.out q wr hb;rw[hz]at hF;have HF:=yH hF;have z0:¬(z:Int)<0:=(by omega);have hsz:=hb.size;have hread:=yH (Strs.bU (l:=gl) (by rw[iU.out];exact HOW.out)).reads;have zcS:gl.length<=1099511627776:=(by rw[iU.out];omega);clear hcells hq MX hr hz hF
   go_wp2_with fail;refine HF.out.mono ?_;rintro e w3 ⟨rfl,hw⟩;rw[hw];clear hw w3 HF
   go_wp2_with fail;refine(vT _ gl q wr hread.out (by omega)).mono ?_;rintro e w4 ⟨rfl,hw⟩;rw[hw];clear hw w4;by_cases hin:oQ gl q=true
   ·have Ak:=yH (xI.out.skip hkl (by rw[HQ.out];exact uY.1 hin));rw[hin]
    go_wp2_with fail
    go_roundw
    case rel=>exact⟨k+1,g,_,c,gl,by omega,by go_num,rfl,iU,HOW,Ak,by omega,hb⟩
    case measure=>simp[intOf];omega
   ·have hin2:oQ gl q=false:=(by cases hx:oQ gl q;rfl;exact absurd hx hin);have hnm:roots[k] ∉ gl:=(by rw[HQ.out];exact fun hx=>hin (G9 hx));have Ak:=yH (xI.out.take hkl hnm);have Fp:(gl ++ [q]).length<=m:=(by have h1:=iL Ak.out.nodup (b:=roots.take (k+1)) (fun x hx=>(Ak.out.mem x).1 hx);rw[List.length_take]at h1;rw[HQ.out]at h1;omega);have VU:g+1<=m:=(by rw[List.length_append,iU.out]at Fp;simpa using Fp);rw[hin2];have hown2:=HOW.out;have o9:=yH hown2;clear hin hin2 hnm Fp
    go_wp2_with (at_builtin;go_loud (refine wpList_append_own _ rfl _ _ 27 rfl w.heap.size 9 i0 (.string ⟨#[]⟩) 1 16 Tryz.underlying27 hi hz0 hz1 hz2 rfl (by decide) _ _ _ rfl (hown2.alloc _) ⟨wr.heap.size,0,none⟩ 1 1 [.string q] rfl rfl (cell_one_new _ _ _) (by simp[Value.oneCell']) (by unfold maxLen;omega) (by omega) (by simp;omega) ?_;intro v' w8 aV hgrow hnil;have pg:=yH aV;have rM:=yH hgrow;clear aV hgrow hnil))
    have hba:Below wr.heap.size wr (wr.alloc (.cells #[.string q] 9)):=(Below.refl _ wr).alloc (Nat.le_refl _) _;have uZ:=(hb.trans (hba.mono hb.size)).grown rM.out (by have:=hba.size;omega) (fun g e=>(o9.out.lt g e).1);obtain⟨a8,c8,rfl⟩:=Tab.aO pg.out;clear hown2;have HL2:=yH (show(gl ++ [q]).length=g+1 by rw[List.length_append,iU.out];rfl);rw[HQ.out]at Ak
    go_roundw
    case rel=>exact⟨k+1,g+1,a8,c8,gl ++ [q],by omega,by go_num,rfl,HL2,yH (by rw[List.map_append];exact pg.out),Ak,VU,uZ⟩
    case measure=>simp[intOf];omega
  ·obtain rfl:k=m:=(by omega);have HC1:=yH (xI.out.done (by rw[HM.out];exact Nat.le_refl _) HH.out);clear xI
   go_wp2_with fail;generalize wr=wz at *
   go_loopw [6,8,9,10] (fun o i _ _ wr=>∃(j g:Nat) (a:Option Addr) (c:Nat) (gl:List ByteArray),j<=g/\i = .int .i64 j/\o = .slice a g c/\Hid (gl.length=g)/\Hid (wr.ownsRow w.heap.size 9 1 (.slice a g c) g (gl.map .string))/\Hid (Cl ds roots gl j)/\g<=d/\Below w.heap.size w wr) (fun _ i _ _ _=>d+1-(intOf i).toNat)
   case atStart=>exact⟨0,g,a,c,gl,Nat.zero_le _,rfl,rfl,iU,HOW,HC1,by have h1:=Fh HC1.out.nodup HC1.out.has;rw[iU.out,nN.out]at h1;exact h1,hb⟩
   case round =>
    clear iU HOW HC1 hb hgm;obtain⟨j,g,a,c,gl,hj,rfl,rfl,iU,HOW,xI,hgd,hb⟩:=hrel;have f0:(0:Int)<=(j:Int):=Int.natCast_nonneg _;by_cases hlj:j<g
    ·have f1:(j:Int)<(g:Int):=(by omega);have hjl:j<gl.length:=(by rw[iU.out];exact hlj);obtain⟨gb,go,zex,hgv,hgc⟩:=fP (Strs.bU (l:=gl) (by rw[iU.out];exact HOW.out)) (by omega);rw[iU.out]at hgv;injection hgv with zcT zcU zcV;subst zcT;clear zcU zcV;have gk:=hgc j hjl;have hph:aJ.has ds gl[j]=true:=xI.out.has _ (List.getElem_mem hjl);unfold aJ.has at hph;obtain⟨r,hr⟩:=Option.isSome_iff_exists.1 hph;have HC2:=yH (J6.start xI.out hjl hr);obtain⟨z,hzl,hz,TK⟩:=gX hr;obtain⟨p,hp⟩:∃p,gl[j]=p:=⟨_,rfl⟩;rw[hp]at gk hz;have hF:=Ej.out p wr hb;rw[hz]at hF;have HF:=yH hF;have hrm:=(Sp.get_some hr).1;have zaP:=PM.out r hrm;obtain⟨ad,MQ,hvd,_,_,hkd⟩:=HD.out.1;injection hvd with hv1 hv2 hv3;subst hv1;rcases hkd with h0|⟨sb,so,hsb,hSb,hkd⟩
     ·rw[h0]at hzl;simp at hzl
     subst hsb;obtain⟨oc,hrg,hrec⟩:=hkd z hzl;rw[TK]at hrec;have hol:=hrec.length;have hoc:=Tab.dX hrec;have pR:wr.rangeAt sb (so+z*39) oc:=St.fD hrg hb;obtain⟨kv,Ym,hoe,QE,_,hrefs⟩:=hrec;have HRF:=yH hrefs;obtain⟨dL,cap2,gY,_,_,_⟩:=hrefs;obtain⟨n,hnn⟩:∃n,r.refs.length=n:=⟨_,rfl⟩;rw[hnn]at gY;subst gY;have HN:=yH hnn;have HOE:=yH hoe;have hnb:n<=4194304:=(by have:=dI r.refs;unfold Rec.bulk at zaP;omega);have z0:(0:Int)<=(z:Int):=Int.natCast_nonneg _;have z1:(z:Int)<(d:Int):=(by have:=nN.out;omega);have hu:=Tryz.underlying31;have hbs:=hb.size;clear hgc hph hr hz hp hF hrm zaP hv2 hv3 hkd hSb hrg TK hzl hnn hoe xI hjl
     go_wp2_with fail;refine HF.out.mono ?_;rintro e w3 ⟨rfl,hw⟩;rw[hw];clear hw w3 HF
     go_wp2_with (first
      | (refine wpList_load_mid rfl 31 _ (by rfl) sb (so+z*39) (by rfl) oc _ pR hu rfl (by rw[hol];kernel_rfl) ?_)
      | (refine wpList_store_mid (by rfl) 31 _ _ (by rfl) wr.heap.size 0 oc.toArray (by rfl) (by rfl) ?s4 ?s5 ?s6 ?_;rotate_right;refine Mem.named ?_;intro W hW))
     case s4=>first|exact(Bx.new wr Ins.ah.cells 31).there 39 rfl|exact(Bx.new wr Ins.ah.cells 31).there _ (by rw[show oc.toArray.size=39 by simpa using hol];rfl)
     case s5=>first|exact sN|(rw[List.size_toArray,hol];kernel_rfl)
     case s6=>first|exact hoc|exact all_oneCell_toArray hoc
     have bW:=aX hW;have XW:=lu hW hol.symm;have BW:=hb.trans (bW.mono hb.size);have XR:=yH (show RB W wr.heap.size r kv (.slice dL n cap2)from⟨by rw[←HOE.out];exact XW,QE⟩);have zaQ:=yH (Copy.own_below HOW.out bW);have hlW:w.heap.size<=wr.heap.size:=hbs;have Eh:=yH (show ∀b,(Value.slice (some ⟨gb,go,none⟩) g c).ownBlock=some b->b≠wr.heap.size from fun b e h0=>by have:=(HOW.out.lt b e).2;omega);clear hW XW bW pR hol hoc HOW hb hbs gk;generalize wr=wy at *
     go_loopw [6,10] (fun o i wr=>∃(k2 g:Nat) (a:Option Addr) (c:Nat) (gl:List ByteArray),k2<=n/\i = .int .i64 k2/\o = .slice a g c/\Hid (gl.length=g)/\Hid (wr.ownsRow w.heap.size 9 1 (.slice a g c) g (gl.map .string))/\Hid (J6 ds roots gl j k2 r)/\g<=d/\Hid (RB wr wy.heap.size r kv (.slice dL n cap2))/\Hid (∀b,(Value.slice a g c).ownBlock=some b->b≠wy.heap.size)/\Below w.heap.size w wr) (fun _ i _=>n-(intOf i).toNat)
     case atStart=>exact⟨0,g,_,c,gl,Nat.zero_le _,rfl,rfl,iU,zaQ,HC2,hgd,XR,Eh,BW⟩
     case round =>
      clear iU zaQ HC2 XR Eh BW hgd;generalize c=c0 at *;obtain⟨k2,g2,a,c,MZ,hk2,rfl,rfl,iU,HOW,HC2,hgd,XR,Eh,hb⟩:=hrel;have p0:(0:Int)<=(k2:Int):=Int.natCast_nonneg _;have g5:=XR.out.c5;by_cases hl2:k2<n
      ·have p1:(k2:Int)<(n:Int):=(by omega);have hkl:k2<r.refs.length:=(by rw[HN.out];exact hl2);obtain⟨rb,ro,wJ,nR,hcells⟩:=fP (HRF.out.below hb) (by omega);rw[HN.out]at nR;injection nR with ji gY jk;subst ji;clear gY jk;have gk:=hcells k2 hkl;obtain⟨q,hq⟩:∃q,r.refs[k2]=q:=⟨_,rfl⟩;rw[hq]at gk;have HQ:=yH hq;have hsz:=hb.size;have hread:=yH (Strs.bU (l:=MZ) (by rw[iU.out];exact HOW.out)).reads;have zcS:MZ.length<=1099511627776:=(by rw[iU.out];omega);clear hcells hq
       go_wp2_with fail;refine(vT _ MZ q wr hread.out (by omega)).mono ?_;rintro e w4 ⟨rfl,hw⟩;rw[hw];clear hw w4;by_cases hin:oQ MZ q=true
       ·have Ak:=yH (HC2.out.skip hkl (by rw[HQ.out];exact uY.1 hin));rw[hin]
        go_wp2_with fail
        go_roundw
        case rel=>exact⟨k2+1,g2,_,c,MZ,by omega,by go_num,rfl,iU,HOW,Ak,hgd,XR,Eh,hb⟩
        case measure=>simp[intOf];omega
       ·have hin2:oQ MZ q=false:=(by cases hx:oQ MZ q;rfl;exact absurd hx hin);have hnm:r.refs[k2] ∉ MZ:=(by rw[HQ.out];exact fun hx=>hin (G9 hx));have Ak:=yH (HC2.out.take hkl hnm HC.out);have Fp:=Fh Ak.out.cl.nodup Ak.out.cl.has;rw[List.length_append,iU.out,nN.out]at Fp;have VU:g2+1<=d:=(by simpa using Fp);rw[HQ.out]at Ak;rw[hin2];have hown2:=HOW.out;have o9:=yH hown2;clear hin hin2 hnm Fp
        go_wp2_with (at_builtin;go_loud (refine wpList_append_own_at _ rfl _ _ 27 rfl w.heap.size 9 i0 (.string ⟨#[]⟩) 1 16 Tryz.underlying27 hi hz0 hz1 hz2 rfl (by decide) _ _ _ rfl (hown2.alloc _) ⟨wr.heap.size,0,none⟩ 1 1 [.string q] rfl rfl (cell_one_new _ _ _) (by simp[Value.oneCell']) (by unfold maxLen;omega) (by omega) (by simp;omega) ?_;intro v' w8 aV hgrow hnil hat;have pg:=yH aV;have rM:=yH hgrow;have QF:Hid (v'.ownBlock=(Value.slice a g2 c).ownBlock∨v'.ownBlock=some (wr.alloc (.cells #[.string q] 9)).heap.size):=yH hat;clear aV hgrow hnil hat))
        have hba:Below wr.heap.size wr (wr.alloc (.cells #[.string q] 9)):=(Below.refl _ wr).alloc (Nat.le_refl _) _;have uZ:=(hb.trans (hba.mono hb.size)).grown rM.out (by have:=hba.size;omega) (fun g e=>(o9.out.lt g e).1);obtain⟨a8,c8,rfl⟩:=Tab.aO pg.out;have k8:Kp (fun b=>(Value.slice a g2 c).ownBlock=some b) wr w8:=(Kp.of_below hba).then (Kp.fA rM.out (fun r e _=>e));have hyl:wy.heap.size<wr.heap.size:=XR.out.bx.lt;have X8:=yH (show RB w8 wy.heap.size r kv (.slice (some ⟨rb,ro,none⟩) n cap2)from⟨XR.out.bx.kp k8 (fun e=>Eh.out _ e rfl),XR.out.hl⟩);have zcW:=yH (show ∀b,(Value.slice a8 (g2+1) c8).ownBlock=some b->b≠wy.heap.size from fun b e=>by
         rcases QF.out with h|h
         ·rw[h]at e;exact Eh.out b e
         ·rw[h]at e;have h1:=Option.some.inj e;rw[World.size_alloc]at h1;omega)
        clear hown2 QF;have HL2:=yH (show(MZ ++ [q]).length=g2+1 by rw[List.length_append,iU.out];rfl)
        go_roundw
        case rel=>exact⟨k2+1,g2+1,a8,c8,MZ ++ [q],by omega,by go_num,rfl,HL2,yH (by rw[List.map_append];exact pg.out),Ak,VU,X8,zcW,uZ⟩
        case measure=>simp[intOf];omega
      ·obtain rfl:k2=n:=(by omega);have HC3:=yH (HC2.out.done (by rw[HN.out];exact Nat.le_refl _));have hjg:j+1<=g2:=(by have:=HC2.out.at'.1;rw[iU.out]at this;exact this)
       go_wp2_with fail
       go_roundw
       case rel=>exact⟨j+1,g2,_,c,MZ,hjg,by go_num,rfl,iU,HOW,HC3,hgd,hb⟩
       case measure=>simp[intOf];omega
    ·obtain rfl:j=g:=(by omega);have HE:=yH (fun p=>xI.out.end (by rw[iU.out];exact Nat.le_refl _) MW.out p);have hst:=yH ((Strs.bU (l:=gl) (by rw[iU.out];exact HOW.out)).sub (S':=fun b=>b<wr.heap.size) (fun q h1 _=>h1))
     go_wp2_with fail;refine(Ja.Aj _ gl wr hst.out (by rw[iU.out];omega)).mono ?_;rintro e w9 ⟨out,⟨v9,rfl,ho,MO⟩,hris,hm⟩;have HO:=yH (jT ho hb.size);have Jb:=yH hris;have VO:=yH hm;have hbb:=hb.trans (MO.mono hb.size);clear ho MO hris hm
     go_wp2_with fail
     go_ret2;exact⟨v9,out,rfl,HO.out,Jb.out,fun p=>(VO.out p).trans (HE.out p),hbb⟩
end uI

namespace uI
open Go.RowKit Mem Tr St kU yL
open Go.Proofs.YtmmmghpimdfleaaGreatDoor.Own
theorem jA{l:List ByteArray}(h:wH.yK l):l.Nodup:=by
 rw[List.nodup_iff_pairwise_ne];exact List.Pairwise.imp (fun h1 e=>by subst e;rw[Sp.lt_irrefl]at h1;cases h1) h
theorem Fq(all live:List ByteArray){k:Nat}(h:k<all.length):nM (all.take (k+1)) live=nM (all.take k) live++(if oQ live all[k]=true then[]else[all[k]]):=by
 rw[List.take_succ_eq_append_getElem h];unfold nM;rw[List.filter_append];congr 1;unfold oQ;by_cases hx:(live.any fun q=>decide (q=all[k]))=true
 ·rw[if_pos hx];simp[hx]
 ·rw[if_neg hx];have hy:(live.any fun q=>decide (q=all[k]))=false:=(by cases hz:(live.any fun q=>decide (q=all[k]));rfl;exact absurd hz hx);simp[hy]
set_option maxRecDepth 20000 in
theorem QG(v rv:Value)(ds:List Rec)(roots:List ByteArray)(w:World)(h:mY w v ds)(hro:Strs (fun b=>b<w.heap.size) w rv roots)(hn:ds.length<=1048576)(hrn:roots.length<=1048576)(hc:∀r∈ds,∀q∈r.refs,aJ.has ds q=true)(hinj:∀a∈ds,∀b∈ds,a.path=b.path->a=b)(hbd:∀x∈ds,x.bulk<=4194304) :
 Calls Tryz.prog 44 #[v,rv] w (CW w ds roots):=by
 have HD:=yH h;have J9:=yH hro;have HC:=yH hc;have MW:=yH hinj;have PM:=yH hbd;obtain⟨Fj,cap0,rfl,_,_,_⟩:=h.1;obtain⟨d,hd⟩:∃d,ds.length=d:=⟨_,rfl⟩;have nN:=yH hd;rw[hd]at hn HD ⊢;obtain⟨ao,cap,rfl,_,_,_⟩:=hro;obtain⟨m,hm⟩:∃m,roots.length=m:=⟨_,rfl⟩;have HM:=yH hm;rw[hm]at hrn J9 ⊢;have Ej:=yH (show ∀q W,Below w.heap.size w W->Calls Tryz.prog 93 #[.slice Fj d cap0,.string q] W fun e w'=>e = .returned (.int .i64 (mX ds q))/\w'=W from fun q W hb=>wI _ _ ds q W (HD.out.1.below hb) (by have:=nN.out;omega));obtain⟨i0,hi,hz0,hz1,hz2⟩:=info_parts Make.bI;clear h hc hinj hbd hd hm
 go_enter Tryz.func44,Tryz.ntmps44
 go_wp2_with fail
 go_loopw [5,6] (fun o i wr=>∃(k g:Nat) (a:Option Addr) (c:Nat) (gl:List ByteArray),k<=m/\i = .int .i64 k/\o = .slice a g c/\Hid (gl.length=g)/\Hid (wr.ownsRow w.heap.size 9 1 (.slice a g c) g (gl.map .string))/\Hid (gl=there ds (roots.take k))/\g<=k/\Below w.heap.size w wr) (fun _ i _=>m-(intOf i).toNat)
 case atStart=>exact⟨0,0,none,0,[],Nat.zero_le _,rfl,rfl,yH rfl,yH (by simpa using World.ownsRow_nil _ _ _ _),yH rfl,Nat.zero_le _,Below.refl _ _⟩
 case round =>
  obtain⟨k,g,a,c,gl,hk,rfl,rfl,iU,HOW,VV,hgk,hb⟩:=hrel;have e0:(0:Int)<=(k:Int):=Int.natCast_nonneg _;by_cases hlt:k<m
  ·have e1:(k:Int)<(m:Int):=(by omega);have hkl:k<roots.length:=(by rw[HM.out];exact hlt);obtain⟨rb,ro,wJ,nR,hcells⟩:=fP (J9.out.below hb) (by omega);injection nR with ji gY jk;subst ji;clear gY jk;have gk:=hcells k hkl;obtain⟨q,hq⟩:∃q,roots[k]=q:=⟨_,rfl⟩;rw[hq]at gk;have Yn:=yH (show there ds (roots.take (k+1))=there ds (roots.take k)++(if aJ.has ds q=true then[q]else[]) by rw[List.take_succ_eq_append_getElem hkl,hq,wL]);have hF:=Ej.out q wr hb;have hsz:=hb.size;clear hcells hq;by_cases MX:aJ.has ds q=true
   ·have oN:=yH (show there ds (roots.take (k+1))=gl ++ [q] by rw[Yn.out,if_pos MX,VV.out]);unfold aJ.has at MX;obtain⟨r,hr⟩:=Option.isSome_iff_exists.1 MX;obtain⟨z,_,hz,_⟩:=gX hr;rw[hz]at hF;have HF:=yH hF;have z0:(0:Int)<=(z:Int):=(by omega);clear MX hr hz hF;have hown2:=HOW.out;have o9:=yH hown2
    go_wp2_with fail;refine HF.out.mono ?_;rintro e w3 ⟨rfl,hw⟩;rw[hw];clear hw w3 HF
    go_wp2_with (at_builtin;go_loud (refine wpList_append_own _ rfl _ _ 27 rfl w.heap.size 9 i0 (.string ⟨#[]⟩) 1 16 Tryz.underlying27 hi hz0 hz1 hz2 rfl (by decide) _ _ _ rfl (hown2.alloc _) ⟨wr.heap.size,0,none⟩ 1 1 [.string q] rfl rfl (cell_one_new _ _ _) (by simp[Value.oneCell']) (by unfold maxLen;omega) (by omega) (by simp;omega) ?_;intro v' w8 aV hgrow hnil;have pg:=yH aV;have rM:=yH hgrow;clear aV hgrow hnil))
    have hba:Below wr.heap.size wr (wr.alloc (.cells #[.string q] 9)):=(Below.refl _ wr).alloc (Nat.le_refl _) _;have uZ:=(hb.trans (hba.mono hb.size)).grown rM.out (by have:=hba.size;omega) (fun g e=>(o9.out.lt g e).1);obtain⟨a8,c8,rfl⟩:=Tab.aO pg.out;clear hown2;have HL2:=yH (show(gl ++ [q]).length=g+1 by rw[List.length_append,iU.out];rfl)
    go_roundw
    case rel=>exact⟨k+1,g+1,a8,c8,gl ++ [q],by omega,by go_num,rfl,HL2,yH (by rw[List.map_append];exact pg.out),yH oN.out.symm,by omega,uZ⟩
    case measure=>simp[intOf];omega
   ·have oN:=yH (show there ds (roots.take (k+1))=gl by rw[Yn.out,if_neg MX,List.append_nil,VV.out]);have hq3:aJ.has ds q=false:=(by cases hh:aJ.has ds q;rfl;exact absurd hh MX);rw[oJ hq3]at hF;have HF:=yH hF;clear MX hq3 hF
    go_wp2_with fail;refine HF.out.mono ?_;rintro e w3 ⟨rfl,hw⟩;rw[hw];clear hw w3 HF
    go_wp2_with fail
    go_roundw
    case rel=>exact⟨k+1,g,_,c,gl,by omega,by go_num,rfl,iU,HOW,yH oN.out.symm,by omega,hb⟩
    case measure=>simp[intOf];omega
  ·obtain rfl:k=m:=(by omega);have HT:=yH (show gl=there ds roots by have h:=VV.out;rwa[List.take_of_length_le (by rw[HM.out];exact Nat.le_refl _)]at h);have hst:=yH ((Strs.bU (l:=gl) (by rw[iU.out];exact HOW.out)).sub (S':=fun b=>b<wr.heap.size) (fun q h1 _=>h1));have Yg:=wK (.slice Fj d cap0) _ ds gl wr (HD.out.below hb) hst.out (by rw[nN.out];exact hn) (by rw[iU.out];omega) (fun p hp=>by
    rw[HT.out]at hp;unfold there at hp;exact(List.mem_filter.1 hp).2) HC.out MW.out PM.out
   have zcX:=yH Yg;clear Yg
   go_wp2_with fail;refine zcX.out.mono ?_;rintro e w9 ⟨v9,L,rfl,ho,hris,hm,MO⟩;have HO:=yH (jT ho hb.size);have Jb:=yH hris;have VO:=yH hm;have hbb:=hb.trans (MO.mono hb.size);clear ho MO hris hm
   go_wp2_with fail
   go_ret;refine⟨L,⟨v9,rfl,HO.out,hbb⟩,Jb.out,fun p=>?_⟩;unfold jc;rw[←HT.out];exact VO.out p
set_option maxRecDepth 20000 in
theorem QH(v rv:Value)(ds:List Rec)(roots:List ByteArray)(w:World)(h:mY w v ds)(hro:Strs (fun b=>b<w.heap.size) w rv roots)(hn:ds.length<=1048576)(hrn:roots.length<=1048576)(hc:∀r∈ds,∀q∈r.refs,aJ.has ds q=true)(hinj:∀a∈ds,∀b∈ds,a.path=b.path->a=b)(hbd:∀x∈ds,x.bulk<=4194304) :
 Calls Tryz.prog 46 #[v,rv] w fun e w'=>∃all live,lD w (nM all live) e w'/\wH.yK all/\(∀p,p∈all↔p∈ds.map Rec.path)/\∀p,p∈live↔jc ds roots p:=by
 have hL:=QG v rv ds roots w h hro hn hrn hc hinj hbd;have HP:=yH (fun W (hb:Below w.heap.size w W)=>Fg _ v ds W (h.below hb).1 hn);have EK:=yH hc;obtain⟨Fj,cap0,rfl,_,_,_⟩:=h.1;obtain⟨d,hd⟩:∃d,ds.length=d:=⟨_,rfl⟩;have nN:=yH hd;rw[hd]at hn hL HP ⊢;obtain⟨ao,cap,rfl,_,_,_⟩:=hro;obtain⟨m,hm⟩:∃m,roots.length=m:=⟨_,rfl⟩;rw[hm]at hL ⊢;obtain⟨i0,hi,hz0,hz1,hz2⟩:=info_parts Make.bI;have HL:=yH hL;clear h hc hbd hd hm hL hrn hinj
 go_enter Tryz.func46,Tryz.ntmps46
 go_wp2_with fail;refine HL.out.mono ?_;rintro e w1 ⟨live,⟨v1,rfl,ho1,b1⟩,TP,hm1⟩;have HR1:=yH (Strs.bU ho1);have HLI:=yH hm1;have hll:live.length<=1048576:=by
  have h1:=Fh (ds:=ds) (jA TP) (fun p hp=>lF EK.out ((hm1 p).1 hp));have:=nN.out;omega
 clear ho1 TP hm1 HL
 go_wp2_with fail;refine(HP.out w1 b1).mono ?_;rintro e w2 ⟨all,⟨v2,rfl,ho2,b2⟩,Na,hm2⟩;have B2:=b1.trans (b2.mono b1.size);have HR2:=yH (HR1.out.below b2);have HA2:=yH ((Strs.bU ho2).sub (S':=fun b=>b<w2.heap.size) (fun q h1 _=>h1));have Jb:=yH Na;have HAL:=yH hm2;have hal:all.length<=1048576:=by
  have h1:=iL (jA Na) (fun p hp=>(hm2 p).1 hp);rw[List.length_map]at h1;have:=nN.out;omega
 obtain⟨a2,c2,rfl⟩:=Tab.aO ho2;obtain⟨n,hnn⟩:∃n,all.length=n:=⟨_,rfl⟩;rw[hnn]at hal HA2 ⊢;have HN:=yH hnn;clear ho2 Na hm2 hnn b1 b2
 go_wp2_with fail
 go_loopw [7,8] (fun o i wr=>∃(k g:Nat) (a:Option Addr) (c:Nat) (gl:List ByteArray),k<=n/\i = .int .i64 k/\o = .slice a g c/\Hid (gl.length=g)/\Hid (wr.ownsRow w2.heap.size 9 1 (.slice a g c) g (gl.map .string))/\Hid (gl=nM (all.take k) live)/\g<=k/\Below w.heap.size w wr/\Below w2.heap.size w2 wr) (fun _ i _=>n-(intOf i).toNat)
 case atStart=>exact⟨0,0,none,0,[],Nat.zero_le _,rfl,rfl,yH rfl,yH (by simpa using World.ownsRow_nil _ _ _ _),yH rfl,Nat.zero_le _,B2,Below.refl _ _⟩
 case round =>
  obtain⟨k,g,a,c,gl,hk,rfl,rfl,iU,HOW,VV,hgk,hb,hb2⟩:=hrel;have e0:(0:Int)<=(k:Int):=Int.natCast_nonneg _;by_cases hlt:k<n
  ·have e1:(k:Int)<(n:Int):=(by omega);have hkl:k<all.length:=(by rw[HN.out];exact hlt);obtain⟨rb,ro,wJ,nR,hcells⟩:=fP (HA2.out.below hb2) (by omega);rw[HN.out]at nR;injection nR with ji gY jk;subst ji;clear gY jk;have gk:=hcells k hkl;have Yn:=yH (Fq all live hkl);obtain⟨q,hq⟩:∃q,all[k]=q:=⟨_,rfl⟩;rw[hq]at gk Yn;have hread:=yH (HR2.out.below hb2).reads;have hsz:=hb.size;have hsz2:=hb2.size;clear hcells hq hkl
   go_wp2_with fail;refine(VN _ live q wr hread.out (by omega)).mono ?_;rintro e w4 ⟨rfl,hw⟩;rw[hw];clear hw w4;by_cases hin:oQ live q=true
   ·have oN:=yH (show nM (all.take (k+1)) live=gl by rw[Yn.out,if_pos hin,List.append_nil,VV.out]);rw[hin]
    go_wp2_with fail
    go_roundw
    case rel=>exact⟨k+1,g,_,c,gl,by omega,by go_num,rfl,iU,HOW,yH oN.out.symm,by omega,hb,hb2⟩
    case measure=>simp[intOf];omega
   ·have hin2:oQ live q=false:=(by cases hx:oQ live q;rfl;exact absurd hx hin);have oN:=yH (show nM (all.take (k+1)) live=gl ++ [q] by rw[Yn.out,if_neg hin,VV.out]);rw[hin2];have hown2:=HOW.out;have o9:=yH hown2;clear hin hin2
    go_wp2_with (at_builtin;go_loud (refine wpList_append_own _ rfl _ _ 27 rfl w2.heap.size 9 i0 (.string ⟨#[]⟩) 1 16 Tryz.underlying27 hi hz0 hz1 hz2 rfl (by decide) _ _ _ rfl (hown2.alloc _) ⟨wr.heap.size,0,none⟩ 1 1 [.string q] rfl rfl (cell_one_new _ _ _) (by simp[Value.oneCell']) (by unfold maxLen;omega) (by omega) (by simp;omega) ?_;intro v' w8 aV hgrow hnil;have pg:=yH aV;have rM:=yH hgrow;clear aV hgrow hnil))
    have hba:Below wr.heap.size wr (wr.alloc (.cells #[.string q] 9)):=(Below.refl _ wr).alloc (Nat.le_refl _) _;have uZ:=(hb.trans (hba.mono hb.size)).grown rM.out (by have:=hba.size;omega) (fun g e=>Nat.le_trans B2.size (o9.out.lt g e).1);have hB9:=(hb2.trans (hba.mono hb2.size)).grown rM.out (by have:=hba.size;have:=hb2.size;omega) (fun g e=>(o9.out.lt g e).1);obtain⟨a8,c8,rfl⟩:=Tab.aO pg.out;clear hown2;have HL2:=yH (show(gl ++ [q]).length=g+1 by rw[List.length_append,iU.out];rfl)
    go_roundw
    case rel=>exact⟨k+1,g+1,a8,c8,gl ++ [q],by omega,by go_num,rfl,HL2,yH (by rw[List.map_append];exact pg.out),yH oN.out.symm,by omega,uZ,hB9⟩
    case measure=>simp[intOf];omega
  ·obtain rfl:k=n:=(by omega);have HT:=yH (show gl=nM all live by have h:=VV.out;rwa[List.take_of_length_le (by rw[HN.out];exact Nat.le_refl _)]at h)
   go_wp2_with fail
   go_ret;refine⟨all,live,⟨_,rfl,?_,hb⟩,Jb.out,HAL.out,HLI.out⟩;have h:=jT HOW.out B2.size;rw[←HT.out,iU.out];exact h
end uI
end Go.Proofs.YtmmmghpimdfleaaGreatDoor
