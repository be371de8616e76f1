/-
  A list of records as an argument: of none whose references are the nil slice is the capacity more than 0.
  The document's store as a plain list in order of arrival, beside the program's sorted one: they hold the same.
  The document's small loops: depotref17.has, depotref19.has, depotref17.Find.
  The document's Paths.
  The document's Find and Closure as plain lists.
  The document's Insert.
  The document's Closure, Live and Dead (printed by tools/mkdcl.py).
  The document's Live and Dead (printed by tools/mkdlv.py).
-/
import Derived.Test.YtmmmghpimdfleaaGreatDoorOpen
import Derived.Test.YtmmmghpimdfleaaGreatDoorGrpZA
import Derived.Test.YtmmmghpimdfleaaGreatDoorGrpA
import Derived.Test.YtmmmghpimdfleaaGreatDoorGrpZ
import Derived.Test.YtmmmghpimdfleaaGreatDoorGrpDE
import Derived.Test.YtmmmghpimdfleaaGreatDoorGrpDC
import Derived.Test.YtmmmghpimdfleaaGreatDoorGrpZB
set_option linter.unusedVariables false
set_option linter.unusedSimpArgs false
set_option maxRecDepth 20000
namespace Go.Proofs.YtmmmghpimdfleaaGreatDoor.Op
open Go.RowKit Mem Tr Go.Deep Go.ChangeShapes Go.WideShapes
def RecsN (S:Nat->Prop) (w:World) (v:Value) (l:List Rec):Prop :=
 ∃ao cap,v = .slice ao l.length cap/\l.length<=cap/\cap<=maxLen/\(l = []∨∃b off,ao=some ⟨b,off,none⟩/\S b/\∀j (h:j < l.length),∃cs,w.rangeAt b (off+j*39) cs/\RecAt S w cs l[j]/\(∀kv n cap,cs=l[j].cells kv (.slice none n cap)->cap=0))
theorem RecsN.recs {S:Nat->Prop} {w:World} {v:Value} {l:List Rec} (h:RecsN S w v l):Recs S w v l:=by
 obtain ⟨ao,cap,hv,hl,hm,hk⟩:=h;exact ⟨ao,cap,hv,hl,hm,hk.imp id (fun ⟨b,o,e1,e2,e3⟩=>⟨b,o,e1,e2,fun j hj=>by
  obtain ⟨cs,h1,h2,_⟩:=e3 j hj;exact ⟨cs,h1,h2⟩⟩)⟩
theorem RecsN.ag {S:Nat->Prop} {w w':World} {v:Value} {l:List Rec} (h:RecsN S w v l) (ha:Ag S w w'):RecsN S w' v l:=by
 obtain ⟨ao,cap,hv,hl,hm,hk⟩:=h;exact ⟨ao,cap,hv,hl,hm,hk.imp id (fun ⟨b,o,e1,e2,e3⟩=>⟨b,o,e1,e2,fun j hj=>by
  obtain ⟨cs,h1,h2,h3⟩:=e3 j hj;exact ⟨cs,fun i u hi=>ha.cell (p:=⟨b,o+j*39+i,none⟩) e2 (h1 i u hi),h2.ag ha,h3⟩⟩)⟩
theorem RecsN.mono {S S':Nat->Prop} {w:World} {v:Value} {l:List Rec} (h:RecsN S w v l) (hs:∀b,S b->S' b):RecsN S' w v l:=by
 obtain ⟨ao,cap,hv,hl,hm,hk⟩:=h;exact ⟨ao,cap,hv,hl,hm,hk.imp id (fun ⟨b,o,e1,e2,e3⟩=>⟨b,o,e1,hs _ e2,fun j hj=>by
  obtain ⟨cs,h1,h2,h3⟩:=e3 j hj;exact ⟨cs,h1,h2.sub fun _ _ h=>hs _ h,h3⟩⟩)⟩
theorem RecsN.below {S:Nat->Prop} {w w':World} {v:Value} {l:List Rec} (h:RecsN S w v l) (hb:Below w.heap.size w w'):RecsN S w' v l:=h.ag (Ag.of_below hb)

section
variable {H : Type} {enc : TypeId × Value → H} {w : World} {spare : Nat → Bool} {held : Bool}
theorem open_listN {n:Nat} (b:Nat):∀ (l:List (DataW H × List MemPlace)) (off:Nat),(∀i,i < l.length->(w.cells? 0 ⟨b,off+i*39,none⟩ 39).bind (DataW.trod enc Tryz.prog w 0 spare held n 31)=l[i]?) ->
 ∃rs:List Rec,rs.length=l.length/\(∀j (h:j < rs.length),∃cs,w.rangeAt b (off+j*39) cs/\RecAt (Old w) w cs rs[j]/\(∀kv n cap,cs=rs[j].cells kv (.slice none n cap)->cap=0))/\bulkR rs<=2*Rows.uptoBulkAll (l.map (·.1)):=by
 intro l
 induction l with
 | nil=>intro off _;exact ⟨[],rfl,fun j h=>absurd h (by simp),Nat.zero_le _⟩
 | cons x l ih =>
  intro off h;have h0:=h 0 (by simp);obtain ⟨cs,h1,h2⟩:=Option.bind_eq_some_iff.1 (show _=some x from h0);obtain ⟨r,hr,hb,_,hN⟩:=open_rec h2;obtain ⟨_,hl39,hc⟩:=World.cells?_some h1;obtain ⟨rs,hl,hel,hbk⟩:=ih (off+39) (fun i hi=>by
   have:=h (i+1) (by simpa using hi);rw [show off+(i+1)*39=off+39+i*39 by omega] at this
   simpa using this)
  refine ⟨r :: rs,by simp [hl],?_,?_⟩
  · intro j hj;cases j with
    | zero =>
     refine ⟨cs,fun i u hi=>?_,hr,hN⟩;have hi39:i < 39:=(by have:=(List.getElem?_eq_some_iff.1 hi).1;omega);have:=hc i hi39;rw [add_plain] at this;rw [this,hi]
    | succ j =>
     obtain ⟨cs2,q1,q2⟩:=hel j (by simpa using hj);rw [show off+39+j*39=off+(j+1)*39 by omega] at q1;exact ⟨cs2,q1,by simpa using q2⟩
  · show r.bulk+2+bulkR rs<=2*(Rows.uptoBulk x.1+Rows.uptoBulkAll (l.map (·.1)));omega
/-- What reads as a list of records is one. -/
theorem open_recsN {fuel:Nat} {cs:List Value} {x:DataW H × List MemPlace} (h:DataW.trod enc Tryz.prog w 0 spare held fuel 22 cs=some x) :
 ∃v l,cs = [v]/\RecsN (Old w) w v l/\bulkR l+2<=2*Rows.uptoBulk x.1:=by
 rcases DataW.trod_slice Tryz.underlying22 h with ⟨rfl,rfl⟩ | ⟨a,len,cap,elems,rest,n,hn,rfl,rfl,hb,hl,hm,hlen,hel,hsp,hns⟩
 · exact ⟨_,[],rfl,⟨none,0,rfl,Nat.le_refl _,Nat.zero_le _,.inl rfl⟩,Nat.le_refl _⟩
 · rw [c_rec] at hel;have key:∃l:List Rec,l.length=len/\(l = []∨∃b off,some a=some ⟨b,off,none⟩/\Old w b/\∀j (h:j < l.length),∃cs,w.rangeAt b (off+j*39) cs/\RecAt (Old w) w cs l[j]/\(∀kv n cap,cs=l[j].cells kv (.slice none n cap)->cap=0))/\bulkR l<=2*Rows.uptoBulkAll (elems.map (·.1)):=by
    by_cases h0:len=0
    · exact ⟨[],by rw [h0];rfl,.inl rfl,Nat.zero_le _⟩
    · have h1:=hel 0 (by omega);rw [List.getElem?_eq_getElem (by omega)] at h1;obtain ⟨cs',h2,h3⟩:=Option.bind_eq_some_iff.1 h1;obtain ⟨_,hl5,hc⟩:=World.cells?_some h2;have h4:=hc 0 (by omega);rw [List.getElem?_eq_getElem (by omega)] at h4;obtain ⟨b,off,spot⟩:=a;have hspot:spot=none:=(by simpa [Addr.add] using World.cell?_spot h4);subst hspot;obtain ⟨rs,k1,k2,k3⟩:=open_listN b elems off (fun i hi=>by
       have:=hel i (by omega);rwa [add_plain] at this)
      exact ⟨rs,k1.trans hlen,.inr ⟨b,off,rfl,World.block_lt_of_cell? w _ h4,k2⟩,k3⟩
   obtain ⟨l,rfl,k2,k3⟩:=key;refine ⟨_,l,rfl,⟨some a,cap,rfl,hl,hm,k2⟩,?_⟩;show bulkR l+2<=2*(Rows.uptoBulkAll (elems.map (·.1))+_+1);omega
theorem arg_recsN {base:Nat} {v:Value} {d:DataW H} {ps:List MemPlace} (hv:Value.okWide Tryz.prog w .any base 22 v) (h:DataW.Trod enc Tryz.prog w 0 spare held 22 v d ps) :
 ∃l,RecsN (Old w) w v l/\bulkR l+2<=2*Rows.uptoBulk d:=by
 obtain ⟨a,n,c,rfl⟩:=okWide_slice Tryz.underlying22 hv;obtain ⟨fuel,hf⟩:=h;rw [cells_slice] at hf;obtain ⟨v',l,e,h1,h2⟩:=open_recsN hf;obtain rfl:=one_of e;exact ⟨l,h1,h2⟩
end
end Go.Proofs.YtmmmghpimdfleaaGreatDoor.Op

namespace Go.Proofs.YtmmmghpimdfleaaGreatDoor.DSt
open Go.RowKit Mem Tr St Swp
def insD (rc st:Nat->BitVec 32) (ds:List Rec) (r:Rec):List Rec :=
 if Sto.insE rc st ds r=0 then (match Sp.get Rec.path ds r.path with
  | some _=>ds
  | none=>ds ++ [r]) else ds
def stockD (rc st:Nat->BitVec 32) (ds l:List Rec):List Rec:=l.foldl (insD rc st) ds
structure Syn (rs ds:List Rec):Prop where
 get:∀p,Sp.get Rec.path rs p=Sp.get Rec.path ds p
 mem:∀x,x∈rs↔x∈ds
 len:rs.length=ds.length
theorem Syn.has {rs ds:List Rec} (h:Syn rs ds) (p:ByteArray):Sto.has rs p=Sto.has ds p:=by unfold Sto.has;rw [h.get]
theorem Syn.insE {rc st:Nat->BitVec 32} {rs ds:List Rec} (h:Syn rs ds) (r:Rec):Sto.insE rc st rs r=Sto.insE rc st ds r:=by
 have h1:Sto.lacks rs r=Sto.lacks ds r:=(by unfold Sto.lacks;congr 1;funext q;rw [h.has]);unfold Sto.insE;rw [h1,h.get]
theorem get_snoc (ds:List Rec) (r:Rec) (p:ByteArray):Sp.get Rec.path (ds ++ [r]) p=(Sp.get Rec.path ds p).or (if r.path=p then some r else none):=by
 unfold Sp.get;rw [List.find?_append];congr 1;by_cases h:r.path=p
 · rw [if_pos h,List.find?_cons_of_pos (by simpa using h)]
 · rw [if_neg h,List.find?_cons_of_neg (by simpa using h)];rfl
theorem Syn.ins {rc st:Nat->BitVec 32} {rs ds:List Rec} (h:Syn rs ds) (hr:Sp.Rising Rec.path rs) (r:Rec):Syn (Sto.insS rc st rs r) (insD rc st ds r):=by
 unfold Sto.insS insD;rw [h.insE r];split
 · cases hg:Sp.get Rec.path rs r.path with
   | some o=>rw [←h.get,hg];exact h
   | none =>
    rw [←h.get,hg];refine ⟨fun p=>?_,fun x=>?_,?_⟩
    · show Sp.get Rec.path (Sp.put Rec.path rs r) p=Sp.get Rec.path (ds ++ [r]) p;rw [Sp.get_put hr hg,get_snoc,←h.get];by_cases hp:p=r.path
      · subst hp;rw [hg,if_pos rfl];rfl
      · rw [if_neg hp,if_neg (fun e=>hp e.symm)];cases Sp.get Rec.path rs p <;> rfl
    · show x∈Sp.put Rec.path rs r↔x∈ds ++ [r];rw [Sp.mem_put,List.mem_append,List.mem_singleton,h.mem];exact Or.comm
    · show (Sp.put Rec.path rs r).length=(ds ++ [r]).length;rw [Sp.put_length,List.length_append,h.len];rfl
 · exact h
theorem syn_stock {rc st:Nat->BitVec 32}:∀ (l rs ds:List Rec),Syn rs ds->Sto.Good rc st rs->(∀r∈l,r.bulk<=4194304)->Syn (stockF rc st rs l) (stockD rc st ds l):=by
 intro l
 induction l with
 | nil=>intro rs ds h _ _;exact h
 | cons r l ih =>
  intro rs ds h hg hb;exact ih _ _ (h.ins hg.rise r) (Sto.good_ins hg (hb r (by simp))) (fun x hx=>hb x (by simp [hx]))
theorem syn_nil:Syn [] []:=⟨fun _=>rfl,fun _=>Iff.rfl,rfl⟩
theorem stockD_take {rc st:Nat->BitVec 32} (ds l:List Rec) (k:Nat) (h:k < l.length):stockD rc st ds (l.take (k+1))=insD rc st (stockD rc st ds (l.take k)) l[k]:=by
 rw [List.take_succ_eq_append_getElem h];unfold stockD;rw [List.foldl_append];rfl
theorem insD_mem {rc st:Nat->BitVec 32} {ds:List Rec} {r x:Rec} (h:x∈insD rc st ds r):x∈ds∨x=r:=by
 unfold insD at h;split at h
 · split at h
   · exact .inl h
   · rcases List.mem_append.1 h with h | h
     · exact .inl h
     · exact .inr (List.mem_singleton.1 h)
 · exact .inl h
theorem insD_len {rc st:Nat->BitVec 32} (ds:List Rec) (r:Rec):(insD rc st ds r).length<=ds.length+1:=by
 unfold insD;split
 · split
   · omega
   · simp
 · omega
theorem stockD_len {rc st:Nat->BitVec 32} (l:List Rec):∀ds:List Rec,(stockD rc st ds l).length<=ds.length+l.length:=by
 induction l with
 | nil=>intro ds;exact Nat.le_refl _
 | cons r l ih =>
  intro ds;have h1:=ih (insD rc st ds r);have h2:=insD_len (rc:=rc) (st:=st) ds r;show (stockD rc st (insD rc st ds r) l).length<=_;rw [List.length_cons];omega
theorem stockD_mem {rc st:Nat->BitVec 32} (l:List Rec):∀ (ds:List Rec) (x:Rec),x∈stockD rc st ds l->x∈ds∨x∈l:=by
 induction l with
 | nil=>intro ds x h;exact .inl h
 | cons r l ih =>
  intro ds x h;rcases ih _ _ h with h | h
  · rcases insD_mem h with h | h
    · exact .inl h
    · exact .inr (by simp [h])
  · exact .inr (by simp [h])
theorem Syn.there {rs ds:List Rec} (h:Syn rs ds) (roots:List ByteArray):there rs roots=there ds roots:=by
 unfold Swp.there;congr 1;funext q;exact h.has q
theorem rch_mono {rs ds:List Rec} (h:∀x,x∈rs->x∈ds) {roots:List ByteArray} {p:ByteArray} (k:Rch rs roots p):Rch ds roots p:=by
 induction k with
 | root h1=>exact .root h1
 | step _ hr hq ih=>exact .step ih (h _ hr) hq
theorem Syn.rch {rs ds:List Rec} (h:Syn rs ds) (roots:List ByteArray) (p:ByteArray):Rch rs roots p↔Rch ds roots p :=
 ⟨rch_mono fun x=>(h.mem x).1,rch_mono fun x=>(h.mem x).2⟩
theorem Syn.lives {rs ds:List Rec} (h:Syn rs ds) (roots:List ByteArray) (p:ByteArray):Lives rs roots p↔Lives ds roots p:=by
 unfold Lives;rw [h.there];exact h.rch _ p
theorem Syn.closed {rs ds:List Rec} (h:Syn rs ds) (hc:∀r∈rs,∀q∈r.refs,Sto.has rs q=true):∀r∈ds,∀q∈r.refs,Sto.has ds q=true:=fun r hr q hq=>by
 rw [←h.has];exact hc r ((h.mem r).2 hr) q hq
theorem ris_ext {a b:List ByteArray} (ha:Srt.Ris a) (hb:Srt.Ris b) (h:∀p,p∈a↔p∈b):a=b:=by
 refine List.Perm.eq_of_pairwise (le:=fun x y=>Sp.lt x y=true) (fun x y _ _ h1 h2=>?_) ha hb ((List.perm_ext_iff_of_nodup ?_ ?_).2 h)
 · have:=Sp.lt_asymm h1;rw [h2] at this;cases this
 · rw [List.nodup_iff_pairwise_ne];exact List.Pairwise.imp (fun h1 e=>by subst e;rw [Sp.lt_irrefl] at h1;cases h1) ha
 · rw [List.nodup_iff_pairwise_ne];exact List.Pairwise.imp (fun h1 e=>by subst e;rw [Sp.lt_irrefl] at h1;cases h1) hb
/-- The other paths, rising. -/
def deadB (all live:List ByteArray):List ByteArray:=all.filter fun p=>!(live.any fun q=>decide (q=p))
theorem dead_same {rs ds:List Rec} (h:Syn rs ds) (hr:Sp.Rising Rec.path rs) {roots all live:List ByteArray} (ha:Srt.Ris all) (hm:∀p,p∈all↔p∈ds.map Rec.path) (hl:∀p,p∈live↔Lives ds roots p):deadL rs roots=deadB all live:=by
 refine ris_ext ?_ (List.Pairwise.filter _ ha) (fun p=>?_)
 · unfold deadL deadTo;exact List.pairwise_map.2 (List.Pairwise.filter _ hr)
 · rw [mem_dead];unfold deadB;rw [List.mem_filter,hm,List.mem_map];have e:(!(live.any fun q=>decide (q=p)))=true↔¬Lives rs roots p:=by
    rw [h.lives,←hl];simp only [Bool.not_eq_true',List.any_eq_false,decide_eq_true_eq];exact ⟨fun h1 h2=>h1 p h2 rfl,fun h1 x h2 e=>h1 (e ▸ h2)⟩
   rw [e];constructor
   · rintro ⟨⟨r,h1,h2⟩,h3⟩;exact ⟨⟨r,(h.mem r).1 h1,h2⟩,h3⟩
   · rintro ⟨⟨r,h1,h2⟩,h3⟩;exact ⟨⟨r,(h.mem r).2 h1,h2⟩,h3⟩
end Go.Proofs.YtmmmghpimdfleaaGreatDoor.DSt

namespace Go.Proofs.YtmmmghpimdfleaaGreatDoor.DFd
open Go.RowKit Mem Tr
def inL (l:List ByteArray) (p:ByteArray):Bool:=l.any fun q=>decide (q=p)
theorem inL_iff {l:List ByteArray} {p:ByteArray}:inL l p=true↔p∈l:=by unfold inL;simp
theorem inL_t {l:List ByteArray} {p:ByteArray} (h:p∈l):inL l p=true:=inL_iff.2 h
theorem inL_f {l:List ByteArray} {p:ByteArray} (h:p ∉ l):inL l p=false:=by cases hh:inL l p;rfl;exact absurd (inL_iff.1 hh) h
theorem str_t {a b:ByteArray} (h:a=b):(a.toList == b.toList)=true:=by rw [h];simp
theorem str_f {a b:ByteArray} (h:a≠b):(a.toList == b.toList)=false:=by
 rw [beq_eq_false_iff_ne];exact fun e=>h (Sp.toList_inj e)
set_option maxHeartbeats 1000000 in
theorem hasC (v:Value) (l:List ByteArray) (p:ByteArray) (w:World) (hr:Texts.Reads w v l) (hn:l.length<=1099511627776) :
 Calls Tryz.prog 134 #[v,.string p] w fun e w'=>e = .returned (.bool (inL l p))/\w'=w:=by
 rcases hr with ⟨ao,cap,rfl,rfl⟩ | ⟨b,off,cap,rfl,hm,hc⟩
 · go_enter Tryz.func134,Tryz.ntmps134
   go_wp2_with fail
   go_loopw [5] (fun i wr=>i = .int .i64 0/\Hid (w=wr)) (fun _ _=>0)
   case atStart=>exact ⟨rfl,Lib.hid rfl⟩
   case round =>
    obtain ⟨rfl,hw⟩:=hrel;obtain rfl:=hw.out
    go_wp2_with fail
    go_ret;exact ⟨rfl,rfl⟩
 obtain ⟨n,hln⟩:∃n,l.length=n:=⟨_,rfl⟩;have HL:=Lib.hid hln;have HC:=Lib.hid hc;rw [hln] at hn ⊢;clear hc hln hm
 go_enter Tryz.func134,Tryz.ntmps134
 go_wp2_with fail
 go_loopw [5] (fun i wr=>∃k:Nat,k<=n/\i = .int .i64 k/\Hid (w=wr)/\Hid (p ∉ l.take k)) (fun i _=>n - (intOf i).toNat)
 case atStart=>exact ⟨0,Nat.zero_le _,rfl,Lib.hid rfl,Lib.hid (by simp)⟩
 case round =>
  obtain ⟨k,hk,rfl,hw,hi⟩:=hrel;obtain rfl:=hw.out;have e0:(0:Int)<=(k:Int):=Int.natCast_nonneg _;by_cases hlt:k < n
  · have e1:(k:Int) < (n:Int):=(by omega);have hkl:k < l.length:=(by rw [HL.out];exact hlt);have hcell:=HC.out k hkl;obtain ⟨q,hq⟩:∃q,l[k]=q:=⟨_,rfl⟩;rw [hq] at hcell;have HQ:=Lib.hid (show l.take (k+1)=l.take k ++ [q] by rw [List.take_succ_eq_append_getElem hkl,hq]);have HM:=Lib.hid (show q∈l by rw [←hq];exact List.getElem_mem hkl);clear hkl hq;by_cases hp:q=p
    · have t1:=str_t hp;have HE:=Lib.hid (show inL l p=true from inL_t (hp ▸ HM.out));clear hp
      go_wp2_with fail
      go_ret;exact ⟨by rw [HE.out];rfl,rfl⟩
    · have t1:=str_f hp;have HE:=Lib.hid (show p ∉ l.take (k+1) by rw [HQ.out,List.mem_append,List.mem_singleton];rintro (h | h);exact hi.out h;exact hp h.symm);clear hp
      go_wp2_with fail
      go_roundw
      case rel=>exact ⟨k+1,by omega,by go_num,Lib.hid (by trivial),HE⟩
      case measure=>simp [intOf];omega
  · have hk2:k=n:=(by omega);subst hk2;have HE:=Lib.hid (show inL l p=false from inL_f (by have h:=hi.out;rwa [List.take_of_length_le (by rw [HL.out];omega)] at h))
    go_wp2_with fail
    go_ret;exact ⟨by rw [HE.out];rfl,rfl⟩
set_option maxHeartbeats 1000000 in
theorem hasC19 (v:Value) (l:List ByteArray) (p:ByteArray) (w:World) (hr:Texts.Reads w v l) (hn:l.length<=1099511627776) :
 Calls Tryz.prog 96 #[v,.string p] w fun e w'=>e = .returned (.bool (inL l p))/\w'=w:=by
 rcases hr with ⟨ao,cap,rfl,rfl⟩ | ⟨b,off,cap,rfl,hm,hc⟩
 · go_enter Tryz.func96,Tryz.ntmps96
   go_wp2_with fail
   go_loopw [5] (fun i wr=>i = .int .i64 0/\Hid (w=wr)) (fun _ _=>0)
   case atStart=>exact ⟨rfl,Lib.hid rfl⟩
   case round =>
    obtain ⟨rfl,hw⟩:=hrel;obtain rfl:=hw.out
    go_wp2_with fail
    go_ret;exact ⟨rfl,rfl⟩
 obtain ⟨n,hln⟩:∃n,l.length=n:=⟨_,rfl⟩;have HL:=Lib.hid hln;have HC:=Lib.hid hc;rw [hln] at hn ⊢;clear hc hln hm
 go_enter Tryz.func96,Tryz.ntmps96
 go_wp2_with fail
 go_loopw [5] (fun i wr=>∃k:Nat,k<=n/\i = .int .i64 k/\Hid (w=wr)/\Hid (p ∉ l.take k)) (fun i _=>n - (intOf i).toNat)
 case atStart=>exact ⟨0,Nat.zero_le _,rfl,Lib.hid rfl,Lib.hid (by simp)⟩
 case round =>
  obtain ⟨k,hk,rfl,hw,hi⟩:=hrel;obtain rfl:=hw.out;have e0:(0:Int)<=(k:Int):=Int.natCast_nonneg _;by_cases hlt:k < n
  · have e1:(k:Int) < (n:Int):=(by omega);have hkl:k < l.length:=(by rw [HL.out];exact hlt);have hcell:=HC.out k hkl;obtain ⟨q,hq⟩:∃q,l[k]=q:=⟨_,rfl⟩;rw [hq] at hcell;have HQ:=Lib.hid (show l.take (k+1)=l.take k ++ [q] by rw [List.take_succ_eq_append_getElem hkl,hq]);have HM:=Lib.hid (show q∈l by rw [←hq];exact List.getElem_mem hkl);clear hkl hq;by_cases hp:q=p
    · have t1:=str_t hp;have HE:=Lib.hid (show inL l p=true from inL_t (hp ▸ HM.out));clear hp
      go_wp2_with fail
      go_ret;exact ⟨by rw [HE.out];rfl,rfl⟩
    · have t1:=str_f hp;have HE:=Lib.hid (show p ∉ l.take (k+1) by rw [HQ.out,List.mem_append,List.mem_singleton];rintro (h | h);exact hi.out h;exact hp h.symm);clear hp
      go_wp2_with fail
      go_roundw
      case rel=>exact ⟨k+1,by omega,by go_num,Lib.hid (by trivial),HE⟩
      case measure=>simp [intOf];omega
  · have hk2:k=n:=(by omega);subst hk2;have HE:=Lib.hid (show inL l p=false from inL_f (by have h:=hi.out;rwa [List.take_of_length_le (by rw [HL.out];omega)] at h))
    go_wp2_with fail
    go_ret;exact ⟨by rw [HE.out];rfl,rfl⟩
def findI (l:List Rec) (p:ByteArray):Int:=match l.findIdx? fun r=>decide (r.path=p) with
 | some i=>i
 | none=>-1
set_option maxHeartbeats 1000000 in
theorem findC (S:Nat->Prop) (v:Value) (l:List Rec) (p:ByteArray) (w:World) (hr:Op.Recs S w v l) (hn:l.length<=1099511627776) :
 Calls Tryz.prog 93 #[v,.string p] w fun e w'=>e = .returned (.int .i64 (findI l p))/\w'=w:=by
 obtain ⟨ao,cap,rfl,hlc,hcm,hel⟩:=hr;rcases hel with rfl | ⟨b,off,rfl,hSb,hel⟩
 · go_enter Tryz.func93,Tryz.ntmps93
   go_wp2_with fail
   go_loopw [5] (fun i wr=>i = .int .i64 0/\Hid (w=wr)) (fun _ _=>0)
   case atStart=>exact ⟨rfl,Lib.hid rfl⟩
   case round =>
    obtain ⟨rfl,hw⟩:=hrel;obtain rfl:=hw.out
    go_wp2_with fail
    go_ret;exact ⟨rfl,rfl⟩
 obtain ⟨n,hln⟩:∃n,l.length=n:=⟨_,rfl⟩;have HL:=Lib.hid hln;have HC:=Lib.hid (show ∀j (h:j < l.length),w.cell? ⟨b,off+j*39,none⟩=some (.string l[j].path) from fun j h=>by
  obtain ⟨cs,h1,kv,rv,rfl,_⟩:=hel j h;exact h1 0 _ rfl)
 rw [hln] at hn hlc ⊢;clear hel hln hSb hcm
 go_enter Tryz.func93,Tryz.ntmps93
 go_wp2_with fail
 go_loopw [5] (fun i wr=>∃k:Nat,k<=n/\i = .int .i64 k/\Hid (w=wr)/\Hid (∀j (h:j < l.length),j < k->l[j].path≠p)) (fun i _=>n - (intOf i).toNat)
 case atStart=>exact ⟨0,Nat.zero_le _,rfl,Lib.hid rfl,Lib.hid fun j h hj=>by omega⟩
 case round =>
  obtain ⟨k,hk,rfl,hw,hi⟩:=hrel;obtain rfl:=hw.out;have e0:(0:Int)<=(k:Int):=Int.natCast_nonneg _;by_cases hlt:k < n
  · have e1:(k:Int) < (n:Int):=(by omega);have hkl:k < l.length:=(by rw [HL.out];exact hlt);have hcell:=HC.out k hkl;obtain ⟨q,hq⟩:∃q,l[k].path=q:=⟨_,rfl⟩;rw [hq] at hcell;have HQ:=Lib.hid (show ∃h:k < l.length,l[k].path=q from ⟨hkl,hq⟩);clear hkl hq;by_cases hp:q=p
    · have t1:=str_t hp;have HE:=Lib.hid (show findI l p=(k:Int) from by
       obtain ⟨h1,h2⟩:=HQ.out;unfold findI;have h:l.findIdx? (fun r=>decide (r.path=p))=some k:=(by rw [List.findIdx?_eq_some_iff_getElem];exact ⟨h1,decide_eq_true (h2.trans hp),fun j hj=>by simpa using hi.out j (Nat.lt_trans hj h1) hj⟩);rw [h])
      clear hp
      go_wp2_with fail
      go_ret;exact ⟨by rw [HE.out];rfl,rfl⟩
    · have t1:=str_f hp;have HE:=Lib.hid (show ∀j (h:j < l.length),j < k+1->l[j].path≠p from fun j h hj=>by
       by_cases e:j=k
       · subst e;obtain ⟨_,h2⟩:=HQ.out;rw [h2];exact hp
       · exact hi.out j h (by omega))
      clear hp
      go_wp2_with fail
      go_roundw
      case rel=>exact ⟨k+1,by omega,by go_num,Lib.hid (by trivial),HE⟩
      case measure=>simp [intOf];omega
  · have hk2:k=n:=(by omega);subst hk2;have HE:=Lib.hid (show findI l p = -1 from by
     unfold findI;have h:l.findIdx? (fun r=>decide (r.path=p))=none:=by
      rw [List.findIdx?_eq_none_iff];intro x hx;obtain ⟨j,hj,rfl⟩:=List.getElem_of_mem hx;exact decide_eq_false (hi.out j hj (by have:=HL.out;omega))
     rw [h])
    go_wp2_with fail
    go_ret;exact ⟨by rw [HE.out];rfl,rfl⟩
end Go.Proofs.YtmmmghpimdfleaaGreatDoor.DFd

namespace Go.Proofs.YtmmmghpimdfleaaGreatDoor.DFd
open Go.RowKit Mem Tr Srt
theorem own_down {w:World} {B B' n k:Nat} {t:TypeId} {v:Value} {xs:List Value} (h:w.ownsRow B t k v n xs) (hB:B'<=B):w.ownsRow B' t k v n xs:=by
 refine ⟨h.1,h.2.imp id ?_⟩;rintro ⟨g,cap,cur,h1,h2,h3⟩;exact ⟨g,cap,cur,h1,Nat.le_trans hB h2,h3⟩
set_option maxHeartbeats 2000000 in
set_option maxRecDepth 20000 in
theorem pathsC (S:Nat->Prop) (v:Value) (l:List Rec) (w:World) (hr:Op.Recs S w v l) (hn:l.length<=1048576) :
 Calls Tryz.prog 95 #[v] w fun e w'=>∃out,Swp.PostTexts w out e w'/\Ris out/\∀p,p∈out↔p∈l.map Rec.path:=by
 obtain ⟨ao,cap,rfl,hlc,hcm,hel⟩:=hr;obtain ⟨n,hln⟩:∃n,l.length=n:=⟨_,rfl⟩;have HL:=Lib.hid hln;have HC:=Lib.hid (show ∀j (h:j < l.length),∃b off,ao=some ⟨b,off,none⟩/\w.cell? ⟨b,off+j*39,none⟩=some (.string l[j].path) from fun j h=>by
  rcases hel with h0 | ⟨b,off,e,_,h2⟩
  · subst h0;simp at h
  · obtain ⟨cs,h1,kv,rv,rfl,_⟩:=h2 j h;exact ⟨b,off,e,h1 0 _ rfl⟩)
 rw [hln] at hn hlc ⊢;clear hel hln hcm;obtain ⟨i0,hi,hz0,hz1,hz2⟩:=info_parts Make.infoStr
 go_enter Tryz.func95,Tryz.ntmps95
 go_wp2_with fail
 go_loopw [3,4] (fun o i wr=>∃k:Nat,k<=n/\i = .int .i64 k/\Hid (wr.ownsRow w.heap.size 9 1 o k (((l.take k).map Rec.path).map .string))/\Below w.heap.size w wr) (fun _ i _=>n - (intOf i).toNat)
 case atStart=>exact ⟨0,Nat.zero_le _,rfl,Lib.hid (by simpa using World.ownsRow_nil _ _ _ _),Below.refl _ _⟩
 case round =>
  obtain ⟨k,hk,rfl,hown,hb⟩:=hrel;have e0:(0:Int)<=(k:Int):=Int.natCast_nonneg _;by_cases hlt:k < n
  · have e1:(k:Int) < (n:Int):=(by omega);have hkl:k < l.length:=(by rw [HL.out];exact hlt);obtain ⟨b,off,rfl,hcw⟩:=HC.out k hkl;have hcell:wr.cell? ⟨b,off+k*39,none⟩=some (.string l[k].path):=(hb.cell (World.block_lt_of_cell? w _ hcw)).trans hcw;have HT:=Lib.hid (show l.take (k+1)=l.take k ++ [l[k]] from List.take_succ_eq_append_getElem hkl);obtain ⟨q,hq⟩:∃q,l[k]=q:=⟨_,rfl⟩;rw [hq] at hcell HT;clear hq hcw hkl;have hown2:=hown.out;have hsz:=hb.size;have HO2:=Lib.hid hown2
    go_wp2_with (at_builtin;go_loud (refine wpList_append_own _ rfl _ _ 27 rfl w.heap.size 9 i0 (.string ⟨#[]⟩) 1 16 Tryz.underlying27 hi hz0 hz1 hz2 rfl (by decide) _ _ _ rfl (hown2.alloc _) ⟨wr.heap.size,0,none⟩ 1 1 [.string q.path] rfl rfl (cell_one_new _ _ _) (by simp [Value.oneCell']) (by unfold maxLen;omega) (by omega) (by simp;omega) ?_;intro v' w8 hown8 hgrow hnil;have HN8:=Lib.hid hown8;have HG8:=Lib.hid hgrow;clear hown8 hgrow hnil))
    have hba:Below wr.heap.size wr (wr.alloc (.cells #[.string q.path] 9)):=(Below.refl _ wr).alloc (Nat.le_refl _) _;have hB8:=(hb.trans (hba.mono hb.size)).grown HG8.out (by have:=hba.size;omega) (fun g e=>(HO2.out.lt g e).1);clear hown2
    go_roundw
    case rel=>exact ⟨k+1,by omega,by go_num,Lib.hid (by rw [HT.out,List.map_append,List.map_append];exact HN8.out),hB8⟩
    case measure=>simp [intOf];omega
  · obtain rfl:k=n:=(by omega);obtain ⟨a,c,rfl⟩:=Tab.own_len hown.out;have HF:=Lib.hid (show wr.ownsRow w.heap.size 9 1 (.slice a k c) (l.map Rec.path).length ((l.map Rec.path).map .string) by
     have h:=hown.out;rw [List.take_of_length_le (by rw [HL.out];exact Nat.le_refl _)] at h;rw [List.length_map,HL.out];exact h)
    have hle:(l.map Rec.path).length=k:=(by rw [List.length_map,HL.out]);have HLE:=Lib.hid hle;clear hle
    go_wp2_with fail;refine (Srtd.sortedC (.slice a k c) (l.map Rec.path) wr (by
     have h:=Strs.of_own HF.out;exact h.sub (S':=fun b=>b < wr.heap.size) (fun q h1 _=>h1)) (by rw [HLE.out];exact hn)).mono ?_
    rintro e w9 ⟨out,⟨v9,rfl,ho,hb9⟩,hris,hm⟩;have HO:=Lib.hid (own_down ho hb.size);have HRI:=Lib.hid hris;have HME:=Lib.hid hm;have hbb:=hb.trans (hb9.mono hb.size);clear ho hb9 hris hm
    go_wp2_with fail
    go_ret;exact ⟨out,⟨v9,rfl,HO.out,hbb⟩,HRI.out,HME.out⟩
end Go.Proofs.YtmmmghpimdfleaaGreatDoor.DFd

namespace Go.Proofs.YtmmmghpimdfleaaGreatDoor.DSt
open Go.RowKit Mem Tr St Swp DFd
theorem find_none {ds:List Rec} {p:ByteArray} (h:Sto.has ds p=false):findI ds p = -1:=by
 unfold findI;have h2:ds.findIdx? (fun r=>decide (r.path=p))=none:=by
  rw [List.findIdx?_eq_none_iff];intro x hx;refine decide_eq_false fun e=>?_
  have:=has_iff.2 ⟨x,hx,e⟩;rw [h] at this;cases this
 rw [h2]
theorem find_some {ds:List Rec} {p:ByteArray} {r:Rec} (h:Sp.get Rec.path ds p=some r):∃k,∃hk:k < ds.length,findI ds p=(k:Int)/\ds[k]=r:=by
 unfold Sp.get at h;cases hf:ds.findIdx? (fun r=>decide (r.path=p)) with
 | none =>
  rw [List.findIdx?_eq_none_iff] at hf;have h1:=List.mem_of_find?_eq_some h;have h2:=List.find?_some h;have h3:=hf r h1;rw [h3] at h2;cases h2
 | some k =>
  have h1:=List.findIdx?_eq_some_iff_getElem.1 hf;obtain ⟨hk,h2,h3⟩:=h1;refine ⟨k,hk,by unfold findI;rw [hf],?_⟩;have e:ds.find? (fun r=>decide (r.path=p))=some ds[k]:=(by rw [List.find?_eq_some_iff_getElem];exact ⟨h2,k,hk,rfl,fun j hj=>by simpa using h3 j hj⟩);have:=h.symm.trans e;exact (Option.some.inj this).symm
/-- What holds of the paths got so far: the references of the first i are among them. -/
structure Cl (ds:List Rec) (roots gl:List ByteArray) (i:Nat):Prop where
 nodup:gl.Nodup
 has:∀p∈gl,Sto.has ds p=true
 reach:∀p∈gl,Rch ds roots p
 roots':∀p∈roots,p∈gl
 done:∀j (h:j < gl.length),j < i->∀r,Sp.get Rec.path ds gl[j]=some r->∀q∈r.refs,q∈gl
theorem nodup_len {α:Type} [DecidableEq α] {a:List α} (h:a.Nodup):∀ {b:List α},(∀x∈a,x∈b)->a.length<=b.length:=by
 induction a with
 | nil=>intro b _;exact Nat.zero_le _
 | cons x a ih =>
  intro b hb;rw [List.nodup_cons] at h;have h1:x∈b:=hb x (by simp);have h2:=ih h.2 (b:=b.erase x) (fun y hy=>(List.mem_erase_of_ne (fun e=>by subst e;exact h.1 hy)).2 (hb y (by simp [hy])));rw [List.length_erase_of_mem h1] at h2;have h3:=List.length_pos_of_mem h1;rw [List.length_cons];omega
theorem gl_len {ds:List Rec} {gl:List ByteArray} (h:gl.Nodup) (hh:∀p∈gl,Sto.has ds p=true):gl.length<=ds.length:=by
 have:=nodup_len h (b:=ds.map Rec.path) (fun p hp=>by
  obtain ⟨r,h1,h2⟩:=has_iff.1 (hh p hp);exact List.mem_map.2 ⟨r,h1,h2⟩)
 rwa [List.length_map] at this
/-- Within record i: the first k of its references are among them. -/
structure Cl2 (ds:List Rec) (roots gl:List ByteArray) (i k:Nat) (r:Rec):Prop where
 cl:Cl ds roots gl i
 at':∃h:i < gl.length,Sp.get Rec.path ds gl[i]=some r
 part:∀q∈r.refs.take k,q∈gl
theorem Cl2.start {ds:List Rec} {roots gl:List ByteArray} {i:Nat} {r:Rec} (c:Cl ds roots gl i) (h:i < gl.length) (hg:Sp.get Rec.path ds gl[i]=some r):Cl2 ds roots gl i 0 r:=⟨c,⟨h,hg⟩,fun q hq=>by simp at hq⟩
theorem Cl2.skip {ds:List Rec} {roots gl:List ByteArray} {i k:Nat} {r:Rec} (c:Cl2 ds roots gl i k r) (h:k < r.refs.length) (hin:r.refs[k]∈gl):Cl2 ds roots gl i (k+1) r :=
 ⟨c.cl,c.at',fun q hq=>by
  rw [List.take_succ_eq_append_getElem h,List.mem_append,List.mem_singleton] at hq;rcases hq with hq | rfl
  · exact c.part q hq
  · exact hin⟩
theorem Cl2.take {ds:List Rec} {roots gl:List ByteArray} {i k:Nat} {r:Rec} (c:Cl2 ds roots gl i k r) (h:k < r.refs.length) (hnin:r.refs[k] ∉ gl) (hc:∀r∈ds,∀q∈r.refs,Sto.has ds q=true):Cl2 ds roots (gl ++ [r.refs[k]]) i (k+1) r:=by
 obtain ⟨hi,hg⟩:=c.at';have hr:r∈ds/\r.path=gl[i]:=Sp.get_some hg;have hq:r.refs[k]∈r.refs:=List.getElem_mem h;refine ⟨⟨?_,fun p hp=>?_,fun p hp=>?_,fun p hp=>List.mem_append_left _ (c.cl.roots' p hp),fun j hj hji r2 hg2 q hq2=>?_⟩,⟨by rw [List.length_append];omega,by rw [List.getElem_append_left hi];exact hg⟩,fun q hq2=>?_⟩
 · rw [List.nodup_append];exact ⟨c.cl.nodup,by simp,fun a ha b hb=>by simp at hb;subst hb;exact fun e=>hnin (e ▸ ha)⟩
 · rw [List.mem_append,List.mem_singleton] at hp;rcases hp with hp | rfl
   · exact c.cl.has p hp
   · exact hc r hr.1 _ hq
 · rw [List.mem_append,List.mem_singleton] at hp;rcases hp with hp | rfl
   · exact c.cl.reach p hp
   · exact .step (by rw [hr.2];exact c.cl.reach _ (List.getElem_mem hi)) hr.1 hq
 · have hj2:j < gl.length:=(by omega);rw [List.getElem_append_left hj2] at hg2;exact List.mem_append_left _ (c.cl.done j hj2 hji r2 hg2 q hq2)
 · rw [List.take_succ_eq_append_getElem h,List.mem_append,List.mem_singleton] at hq2;rcases hq2 with hq2 | rfl
   · exact List.mem_append_left _ (c.part q hq2)
   · exact List.mem_append_right _ (by simp)
theorem Cl2.done {ds:List Rec} {roots gl:List ByteArray} {i k:Nat} {r:Rec} (c:Cl2 ds roots gl i k r) (h:r.refs.length<=k):Cl ds roots gl (i+1):=by
 obtain ⟨hi,hg⟩:=c.at';refine ⟨c.cl.nodup,c.cl.has,c.cl.reach,c.cl.roots',fun j hj hji r2 hg2 q hq=>?_⟩;by_cases e:j=i
 · subst e;have:=hg.symm.trans hg2;obtain rfl:=Option.some.inj this;exact c.part q (by rw [List.take_of_length_le h];exact hq)
 · exact c.cl.done j hj (by omega) r2 hg2 q hq
theorem Cl.end {ds:List Rec} {roots gl:List ByteArray} {i:Nat} (c:Cl ds roots gl i) (h:gl.length<=i) (hinj:∀a∈ds,∀b∈ds,a.path=b.path->a=b) (p:ByteArray):p∈gl↔Rch ds roots p:=by
 refine ⟨c.reach p,fun hp=>?_⟩
 induction hp with
 | root h=>exact c.roots' _ h
 | @step r q _ hr hq ih =>
  obtain ⟨j,hj,e⟩:=List.mem_iff_getElem.1 ih;have hh:=c.has _ ih;unfold Sto.has at hh;obtain ⟨r2,h2⟩:=Option.isSome_iff_exists.1 hh;have h3:=Sp.get_some h2;have:r2=r:=hinj _ h3.1 _ hr h3.2;subst this;exact c.done j hj (by omega) r2 (by rw [e];exact h2) q hq
/-- Behind m roots. -/
structure Cl0 (ds:List Rec) (roots gl:List ByteArray) (m:Nat):Prop where
 nodup:gl.Nodup
 mem:∀p,p∈gl↔p∈roots.take m
theorem Cl0.start (ds:List Rec) (roots:List ByteArray):Cl0 ds roots [] 0:=⟨List.nodup_nil,fun p=>by simp⟩
theorem Cl0.skip {ds:List Rec} {roots gl:List ByteArray} {m:Nat} (c:Cl0 ds roots gl m) (h:m < roots.length) (hin:roots[m]∈gl):Cl0 ds roots gl (m+1) :=
 ⟨c.nodup,fun p=>by
  rw [List.take_succ_eq_append_getElem h,List.mem_append,List.mem_singleton,←c.mem];exact ⟨.inl,fun h=>h.elim id (fun e=>e ▸ hin)⟩⟩
theorem Cl0.take {ds:List Rec} {roots gl:List ByteArray} {m:Nat} (c:Cl0 ds roots gl m) (h:m < roots.length) (hnin:roots[m] ∉ gl):Cl0 ds roots (gl ++ [roots[m]]) (m+1) :=
 ⟨by rw [List.nodup_append];exact ⟨c.nodup,by simp,fun a ha b hb=>by simp at hb;subst hb;exact fun e=>hnin (e ▸ ha)⟩,fun p=>by
  rw [List.take_succ_eq_append_getElem h,List.mem_append,List.mem_append,c.mem]⟩
theorem Cl0.done {ds:List Rec} {roots gl:List ByteArray} {m:Nat} (c:Cl0 ds roots gl m) (h:roots.length<=m) (hr:∀p∈roots,Sto.has ds p=true):Cl ds roots gl 0:=by
 have e:∀p,p∈gl↔p∈roots:=fun p=>by rw [c.mem,List.take_of_length_le h]
 exact ⟨c.nodup,fun p hp=>hr p ((e p).1 hp),fun p hp=>.root ((e p).1 hp),fun p hp=>(e p).2 hp,fun j hj h0=>by omega⟩
end Go.Proofs.YtmmmghpimdfleaaGreatDoor.DSt

namespace Go.Proofs.YtmmmghpimdfleaaGreatDoor.DSt
open Go.RowKit Mem Tr St Swp DFd DVa
open Go.Proofs.YtmmmghpimdfleaaGreatDoor.Own
open Go.Proofs.YtmmmghpimdfleaaGreatDoor.DSha (rcD stD)
/-- A document's store in memory. -/
def RecsD (w:World) (v:Value) (ds:List Rec):Prop:=Op.Recs (fun b=>b < w.heap.size) w v ds/\∀n c,v = .slice none n c->c=0
theorem RecsD.below {w w':World} {v:Value} {ds:List Rec} (h:RecsD w v ds) (hb:Below w.heap.size w w'):RecsD w' v ds :=
 ⟨(h.1.below hb).mono fun b hbb=>Nat.lt_of_lt_of_le hbb hb.size,h.2⟩
theorem RecsD.nil (w:World):RecsD w (.slice none 0 0) []:=⟨⟨none,0,rfl,Nat.le_refl _,by unfold maxLen;omega,.inl rfl⟩,fun n c h=>by injection h with _ _ h3;exact h3.symm⟩
def PostIns (w:World) (n:Int) (ds:List Rec) (e:Ending) (w':World):Prop:=∃v',e = .returned (.tuple #[v',.int .i64 n])/\RecsD w' v' ds/\Below w.heap.size w w'
/-- The rows of a list of records. -/
theorem recs_rows {S:Nat->Prop} {w:World} {b off:Nat} {l:List Rec} (h:∀j (h:j < l.length),∃cs,w.rangeAt b (off+j*39) cs/\RecAt S w cs l[j]) :
 ∃xs,Rows39 S w xs l/\(∀j u,xs[j]? = some u->w.cell? ⟨b,off+j,none⟩=some u)/\∀u∈xs,u.oneCell'=true:=by
 have key:∀k,k<=l.length->∃xs,Rows39 S w xs (l.take k)/\(∀j u,xs[j]? = some u->w.cell? ⟨b,off+j,none⟩=some u)/\∀u∈xs,u.oneCell'=true:=by
  intro k
  induction k with
  | zero=>intro _;exact ⟨[],by rw [List.take_zero];exact Rows39.nil _ _,fun j u h=>by simp at h,fun u h=>by cases h⟩
  | succ k ih =>
   intro hk;obtain ⟨xs,h1,h2,h3⟩:=ih (by omega);obtain ⟨cs,h4,h5⟩:=h k (by omega);have hxl:xs.length=39*k:=(by have:=h1.len;rw [List.length_take] at this;omega);refine ⟨xs ++ cs,by rw [List.take_succ_eq_append_getElem (by omega)];exact h1.snoc h5,fun j u hj=>?_,fun u hu=>?_⟩
   · by_cases hjl:j < xs.length
     · rw [List.getElem?_append_left hjl] at hj;exact h2 j u hj
     · rw [List.getElem?_append_right (by omega)] at hj;have:=h4 (j - xs.length) u hj;rwa [show off+k*39+(j - xs.length)=off+j by omega] at this
   · rcases List.mem_append.1 hu with hu | hu
     · exact h3 u hu
     · exact Tab.recOne h5 u hu
 obtain ⟨xs,h1,h2,h3⟩:=key l.length (Nat.le_refl _);exact ⟨xs,by rwa [List.take_length] at h1,h2,h3⟩
/-- append(own, given...) of records. -/
theorem app_recs {S:Nat->Prop} {w:World} {B c:Nat} {a:Nat} {rv:Value} {l:List Rec} (hown:w.ownsRow B 31 39 (.slice (some ⟨a,0,none⟩) 0 c) 0 []) (hr:Op.Recs S w rv l) (hcap:∀n c,rv = .slice none n c->c=0) (hS:∀b,S b->b < w.heap.size/\b≠a) (hn:l.length<=1048576) (hB:B<=w.heap.size) :
 ∃v' w' xs,(Builtin.append_ #[22,22] 22 #[.slice (some ⟨a,0,none⟩) 0 c,rv]).run Tryz.prog w = .ok v' w'/\w'.ownsRow B 31 39 v' l.length xs/\Rows39 S w' xs l/\w.grownBy w' (some a)/\(v'.ownBlock=some a∨v'.ownBlock=some w.heap.size):=by
 obtain ⟨i0,hi,hz0,hz1,hz2⟩:=info_parts Ins.infoRec;obtain ⟨ao,cap,rfl,hl,hm,hk⟩:=hr;cases ao with
 | none =>
  obtain rfl:=hcap _ _ rfl;obtain rfl:l = []:=List.eq_nil_of_length_eq_zero (by omega);exact ⟨_,w,[],run_append_owned_none (P:=Tryz.prog) w B _ _ 31 i0 39 Tryz.underlying22 hi _ 0 [] hown,hown,Rows39.nil _ _,⟨rfl,rfl,rfl,Nat.le_refl _,fun _ _ _=>rfl⟩,.inl rfl⟩
 | some ad =>
  have hrows:∃xs,Rows39 S w xs l/\(∀j u,xs[j]? = some u->w.cell? (ad.add j)=some u)/\∀u∈xs,u.oneCell'=true:=by
   rcases hk with rfl | ⟨b,o,e1,e2,e3⟩
   · exact ⟨[],Rows39.nil _ _,fun j u h=>by simp at h,fun u h=>by cases h⟩
   · cases e1
     obtain ⟨xs,h1,h2,h3⟩:=recs_rows e3;exact ⟨xs,h1,fun j u h=>by rw [Go.WideShapes.add_plain];exact h2 j u h,h3⟩
  obtain ⟨xs,h1,h2,h3⟩:=hrows;obtain ⟨v',w',r1,r2,r3,_,r5⟩:=run_append_own_at (P:=Tryz.prog) w B 22 22 31 i0 Ins.zeroRec 39 136 Tryz.underlying22 hi hz0 hz1 hz2 rfl (by decide) _ 0 [] hown ad l.length cap xs (by rw [h1.len];omega) h2 h3 (by unfold maxLen;omega) (by omega) hB;rw [Nat.zero_add] at r2;refine ⟨v',w',xs,r1,r2,h1.ag (fun q hs hq=>r3.block q hq (fun e=>(hS q hs).2 (show q=a from Option.some.inj e))),r3,?_⟩;exact r5
set_option maxHeartbeats 8000000 in
set_option maxRecDepth 20000 in
theorem insertC (v:Value) (ds:List Rec) (r:Rec) (cs:List Value) (w:World) (h:RecsD w v ds) (hr:RecAt (fun b=>b < w.heap.size) w cs r) (hcap:∀kv n cap,cs=r.cells kv (.slice none n cap)->cap=0) (hb:r.bulk<=2097152) (hbd:∀x∈ds,x.bulk<=4194304) (hn:ds.length<=1048575) :
 Calls Tryz.prog 59 #[v,.agg cs.toArray] w (PostIns w (Sto.insE rcD stD ds r) (insD rcD stD ds r)):=by
 have HD:=Lib.hid h;have HRD:=Lib.hid hr;have HCAP:=Lib.hid hcap;have HB:=Lib.hid hb;have HBD:=Lib.hid hbd;have HCL:=Lib.hid hr.length;have HOC:=Lib.hid (Tab.recOne hr);obtain ⟨ao0,cap0,rfl,_,_,_⟩:=h.1;obtain ⟨d,hd⟩:∃d,ds.length=d:=⟨_,rfl⟩;have HDL:=Lib.hid hd;rw [hd] at hn HD ⊢;obtain ⟨kv,rv,hcs,hh,hk,hrr⟩:=hr;have HR:=Lib.hid hrr;obtain ⟨ao,cap,rfl,_,_,_⟩:=hk;obtain ⟨ao2,cap2,rfl,_,_,_⟩:=hrr;have HCS:=Lib.hid hcs.symm;have F1:=alloc_facts (w:=w) (z:=cs.toArray) (t:=31) rfl;have r0:(w.alloc (.cells cs.toArray 31)).rangeAt w.heap.size 0 cs:=(by have:=F1.2.1.range;simpa using this);clear hcs hb h hcap hbd F1 hd
 go_enter Tryz.func59,Tryz.ntmps59
 go_wp2_with (refine wpList_load_mid rfl 31 _ (by rfl) w.heap.size 0 (by rfl) cs _ r0 Tryz.underlying31 rfl (by rw [HCL.out];kernel_rfl) ?_)
 refine calls_named fun w1 hw1=>?_
 obtain ⟨b1,x1⟩:=alloc_fact hw1;have X1:=Lib.hid (show RB w1 w.heap.size r (.slice ao r.tree.kids.len cap) (.slice ao2 r.refs.length cap2) from ⟨by rw [HCS.out];exact x1,hh⟩);have Y1:=Lib.hid x1;clear hw1 x1 r0;refine (DVa.validC (fun b=>b < w.heap.size) r cs w1 (HRD.out.below b1) (fun b hb=>Nat.lt_of_lt_of_le hb b1.size) HB.out).mono ?_;rintro e w2 ⟨rfl,b2⟩;have B2:=b1.trans (b2.mono b1.size);have X2:=Lib.hid (X1.out.below b2);have Y2:=Lib.hid (Y1.out.below b2);obtain ⟨vv,hv⟩:∃v,Sto.validE rcD stD r=v:=⟨_,rfl⟩;rw [hv];have HV:=Lib.hid hv;clear hv;by_cases h1:vv=0
 case neg =>
  have t1:(vv != 0)=true:=(by simpa using h1);have e1:Sto.insE rcD stD ds r=vv:=(by unfold Sto.insE;rw [HV.out,if_neg h1]);have e2:insD rcD stD ds r=ds:=(by unfold insD;rw [e1,if_neg h1]);have HE1:=Lib.hid e1;have HE2:=Lib.hid e2;clear h1 e1 e2
  go_wp2_with fail
  go_ret2;rw [HE1.out,HE2.out];exact ⟨_,rfl,HD.out.below B2,B2⟩
 subst h1;obtain ⟨n,hnn⟩:∃n,r.refs.length=n:=⟨_,rfl⟩;have hnb:n<=4194304:=(by have:=length_bulks r.refs;have:=HB.out;unfold Rec.bulk at this;omega);rw [hnn] at HR X1 X2 HCS;have HN:=Lib.hid hnn;have g5:=X2.out.c5;have HFI:=Lib.hid (show ∀q W,Below w.heap.size w W->Calls Tryz.prog 93 #[.slice ao0 d cap0,.string q] W fun e w'=>e = .returned (.int .i64 (findI ds q))/\w'=W from fun q W hb=>findC _ _ ds q W (HD.out.1.below hb) (by have:=HDL.out;omega));clear hnn
 go_wp2_with fail
 go_loopw [7] (fun i wr=>∃k:Nat,k<=n/\i = .int .i64 k/\Hid (∀j (h:j < r.refs.length),j < k->r.refs[j]=r.path∨Sto.has ds r.refs[j]=true)/\Below w.heap.size w wr/\Below w1.heap.size w1 wr) (fun i _=>n - (intOf i).toNat)
 case atStart=>exact ⟨0,Nat.zero_le _,rfl,Lib.hid (fun j _ hj=>absurd hj (Nat.not_lt_zero _)),B2,b2⟩
 case round =>
  obtain ⟨k,hk,rfl,hall,br,bq⟩:=hrel;have g5:=(X1.out.below bq).c5;by_cases hlt:k < n
  · obtain ⟨rb,ro,rcap,hrv,hcells⟩:=strs_at (HR.out.below br) (by rw [HN.out];omega);injection hrv with hrv1 hrv2 hrv3;subst hrv1;clear hrv2 hrv3;have hkl:k < r.refs.length:=(by rw [HN.out];exact hlt);have gk:=hcells k hkl;obtain ⟨q,hq⟩:∃q,r.refs[k]=q:=⟨_,rfl⟩;rw [hq] at gk;have HQ:=Lib.hid hq;have e0:(0:Int)<=(k:Int):=Int.natCast_nonneg _;have e1:(k:Int) < (n:Int):=(by omega);have cpr:=(X1.out.below bq).c0;have HSN:=Lib.hid (show (r.refs[k]=r.path∨Sto.has ds r.refs[k]=true)->∀j (h:j < r.refs.length),j < k+1->r.refs[j]=r.path∨Sto.has ds r.refs[j]=true from fun hh j h hj=>by
     by_cases hjk:j < k
     · exact hall.out j h hjk
     · obtain rfl:j=k:=(by omega);exact hh)
    clear hcells hq;by_cases hqp:q=r.path
    · have tt:(q.toList == r.path.toList)=true:=(by rw [Eq.bytes_beq];exact decide_eq_true hqp);have HNEW:=Lib.hid (HSN.out (.inl (by rw [HQ.out];exact hqp)));clear hqp
      go_wp2_with fail
      go_quiet (fail)
      go_wp2_with fail
      go_roundw
      case rel=>exact ⟨k+1,by omega,by go_num,HNEW,Tab.below_drewN br _,Tab.below_drewN bq _⟩
      case measure=>simp [intOf];omega
    · have tt:(q.toList == r.path.toList)=false:=(by rw [Eq.bytes_beq];exact decide_eq_false hqp);have hF:=HFI.out q;by_cases hq2:Sto.has ds q=true
      · have HNEW:=Lib.hid (HSN.out (.inr (by rw [HQ.out];exact hq2)));unfold Sto.has at hq2;obtain ⟨old,hold⟩:=Option.isSome_iff_exists.1 hq2;obtain ⟨z,_,hz,_⟩:=find_some hold;rw [hz] at hF;have hz0:¬(z:Int) < 0:=(by omega);have HF:=Lib.hid hF;have hbr0:=br.drew;clear hqp hq2 hold hz hF
        go_wp2_with fail
        go_quiet ((go_at_call 93;refine Calls.quiet_of_same (HF.out _ (by first | assumption | exact br.drew | exact Tab.below_drewN br _))));have br3:Below w.heap.size w (wr.drewN nq):=Tab.below_drewN br _;have bq3:Below w1.heap.size w1 (wr.drewN nq):=Tab.below_drewN bq _
        go_wp2_with fail
        go_roundw
        case rel=>exact ⟨k+1,by omega,by go_num,HNEW,br3,bq3⟩
        case measure=>simp [intOf];omega
      · have hq3:Sto.has ds q=false:=(by cases hh:Sto.has ds q;rfl;exact absurd hh hq2);rw [find_none hq3] at hF;have HF:=Lib.hid hF;have hl:Sto.lacks ds r=true:=(by unfold Sto.lacks;rw [List.any_eq_true];exact ⟨q,by rw [←HQ.out];exact List.getElem_mem _,by rw [decide_eq_true hqp,hq3];rfl⟩);have HE1:=Lib.hid (show Sto.insE rcD stD ds r=3 by unfold Sto.insE;rw [if_pos HV.out,hl,if_pos rfl]);have HE2:=Lib.hid (show insD rcD stD ds r=ds by unfold insD;rw [if_neg (by rw [HE1.out];decide)]);have hbr0:=br.drew;clear hl hq2 hq3 hqp hF
        go_wp2_with fail
        go_quiet ((go_at_call 93;refine Calls.quiet_of_same (HF.out _ (by first | assumption | exact br.drew | exact Tab.below_drewN br _))));have hbz:Below w.heap.size w (wr.drewN nq):=Tab.below_drewN br _
        go_wp2_with fail
        go_ret2;rw [HE1.out,HE2.out];exact ⟨_,rfl,HD.out.below hbz,hbz⟩
  · obtain rfl:k=n:=(by omega);have hl0:Sto.lacks ds r=false:=by
     unfold Sto.lacks;rw [List.any_eq_false];intro q hq;obtain ⟨j,hj,rfl⟩:=List.getElem_of_mem hq;rcases hall.out j hj (by rw [←HN.out];exact hj) with h | h
     · simp [h]
     · simp [h]
    have HL0:=Lib.hid hl0;clear hl0;have cpr:=(X1.out.below bq).c0;cases hg:Sp.get Rec.path ds r.path with
    | some old =>
     have HG:=Lib.hid hg;obtain ⟨z,hzl,hz,hzo⟩:=find_some hg;have hFP:=HFI.out r.path wr br;rw [hz] at hFP;have hEO:=Lib.hid (show Sto.insE rcD stD ds r=if eqR old r=true then 0 else 8 by
      unfold Sto.insE;rw [if_pos HV.out,HL0.out,if_neg (by decide),HG.out];unfold eqR;by_cases h:old=r
      · simp [h]
      · simp [h])
     have HE2:=Lib.hid (show insD rcD stD ds r=ds by unfold insD;rw [HG.out];split <;> rfl);have hold:=Sp.get_some hg;have HOB:=Lib.hid (show old.bulk<=4194304 from HBD.out _ hold.1);obtain ⟨ad,capd,hvd,_,_,hkd⟩:=HD.out.1;injection hvd with hv1 hv2 hv3;subst hv1;rcases hkd with h0 | ⟨rb,ro,hrb,hSb,hkd⟩
     · rw [h0] at hzl;simp at hzl
     subst hrb;obtain ⟨oc,hrg,hrec⟩:=hkd z hzl;rw [hzo] at hrec;have HOR:=Lib.hid (hrec.below br);have HRR:=Lib.hid ((HRD.out.below b1).below bq);have hol:=hrec.length;have hrgW:wr.rangeAt rb (ro+z*39) oc:=St.range_below hrg br;have hrgR:wr.rangeAt w.heap.size 0 cs:=(by have:=(Y1.out.below bq).range;simpa using this);have z0:(0:Int)<=(z:Int):=Int.natCast_nonneg _;have z1:(z:Int) < (d:Int):=(by have:=HDL.out;omega);clear hg hold hkd hrg hrec hzo hz hv2 hv3 hSb
     go_wp2_with fail;refine hFP.mono ?_;rintro e w3 ⟨rfl,hw⟩;rw [hw];clear hw w3;have hS0:wr.drew.rangeAt rb (ro+z*39) oc/\wr.drew.rangeAt w.heap.size 0 cs:=⟨hrgW,hrgR⟩;have hu:=Tryz.underlying31;have hi39a:(Tryz.prog.info? 31).map (·.size)=some oc.length:=(by rw [hol];kernel_rfl);have hi39b:(Tryz.prog.info? 31).map (·.size)=some cs.length:=(by rw [HCL.out];kernel_rfl);clear hFP hrgW hrgR hzl
     go_wp2_with fail;refine wp_region_held_drew (S:=fun W'=>W'.rangeAt rb (ro+z*39) oc/\W'.rangeAt w.heap.size 0 cs) (by kernel_rfl) hS0 (fun hHeld=>?_);refine wpAnyH_take (i:=0) (v:=?_) rfl (by kernel_rfl) (by kernel_rfl) (by kernel_rfl) (fun _ _ _ h=>h) (Or.inl ⟨by rfl,?_⟩) (by assumption) ?_
     rotate_left
     · (intro w hSw;go_simp;try with_reducible rfl)
     simp only [Act.put,List.setIfInBounds_toArray,List.set_cons_zero,List.set_cons_succ];refine wpAnyH_take (i:=1) (v:=?_) rfl (by kernel_rfl) (by kernel_rfl) (by kernel_rfl) (fun _ _ _ h=>h) (Or.inl ⟨by rfl,?_⟩) (by assumption) ?_
     rotate_left
     · (intro w hSw;go_simp;try with_reducible rfl)
     simp only [Act.put,List.setIfInBounds_toArray,List.set_cons_zero,List.set_cons_succ];refine wpAnyH_take (i:=2) (v:=?_) rfl (by kernel_rfl) (by kernel_rfl) (by kernel_rfl) (fun _ _ _ h=>h) (Or.inl ⟨by rfl,?_⟩) (by assumption) ?_
     rotate_left
     · (intro w hSw;go_simp;try with_reducible rfl)
     simp only [Act.put,List.setIfInBounds_toArray,List.set_cons_zero,List.set_cons_succ];refine' wpAnyH_take (i:=3) (v:=_) rfl (by kernel_rfl) (by kernel_rfl) (by kernel_rfl) (fun _ _ _ h=>h) (yieldsIf_load_mid (by rfl) _ _ rfl _ _ rfl _ _ ?hSA ?huA ?hdA ?hiA) (by assumption) ?restA
     case hSA=>(intro w hSw;exact hSw.1)
     case huA=>exact hu
     case hdA=>rfl
     case hiA=>first | exact hi39a | exact hi39b | kernel_rfl
     simp only [Act.put,List.setIfInBounds_toArray,List.set_cons_zero,List.set_cons_succ];refine' wpAnyH_take (i:=4) (v:=_) rfl (by kernel_rfl) (by kernel_rfl) (by kernel_rfl) (fun _ _ _ h=>h) (yieldsIf_load_mid (by rfl) _ _ rfl _ _ rfl _ _ ?hSB ?huB ?hdB ?hiB) (by assumption) ?restB
     case hSB=>(intro w hSw;exact hSw.2)
     case huB=>exact hu
     case hdB=>rfl
     case hiB=>first | exact hi39a | exact hi39b | kernel_rfl
     simp only [Act.put,List.setIfInBounds_toArray,List.set_cons_zero,List.set_cons_succ];refine wpAnyH_ready (rs:=[5]) (by kernel_rfl) (by simp) ?_;refine AllReadyH.cons rfl (fun K hK=>?_) AllReadyH.nil
     go_simp
     go_at_call 29;refine (rsameC _ _ old r oc cs wr.drew (HOR.out.below (Below.refl _ wr).drew) (HRR.out.below (Below.refl _ wr).drew) HOB.out).mono ?_;rintro e w5 ⟨rfl,b5⟩;have c5:Below wr.heap.size wr w5:=Copy.below_undrew b5;have hS5:w5.rangeAt rb (ro+z*39) oc/\w5.rangeAt w.heap.size 0 cs:=⟨St.range_below (w:=wr) hS0.1 c5,St.range_below (w:=wr) hS0.2 c5⟩;have B5:=br.trans (c5.mono br.size);refine hK.out _ _ hS5 (fun hHeld=>?_);clear hK K;refine wpAnyH_take (i:=6) (v:=?_) rfl (by kernel_rfl) (by kernel_rfl) (by kernel_rfl) (fun _ _ _ h=>h) (Or.inl ⟨by rfl,?_⟩) (by assumption) ?_
     rotate_left
     · (intro w hSw;go_simp;try with_reducible rfl)
     simp only [Act.put,List.setIfInBounds_toArray,List.set_cons_zero,List.set_cons_succ];refine wpAnyH_done (by kernel_rfl) ?_ _;clear hHeld hS0 hS5;obtain ⟨E,hE⟩:∃E,eqR old r=E:=⟨_,rfl⟩;rw [hE] at hEO ⊢;clear hE;cases E with
     | true =>
      go_wp2_with fail
      go_ret2;rw [hEO.out,HE2.out];exact ⟨_,rfl,HD.out.below B5,B5⟩
     | false =>
      go_wp2_with fail
      go_ret2;rw [hEO.out,HE2.out];exact ⟨_,rfl,HD.out.below B5,B5⟩
    | none =>
     have HG:=Lib.hid hg;have hh0:Sto.has ds r.path=false:=(by unfold Sto.has;rw [hg];rfl);have hFP:=HFI.out r.path wr br;rw [find_none hh0] at hFP;have HE1:=Lib.hid (show Sto.insE rcD stD ds r=0 by unfold Sto.insE;rw [if_pos HV.out,HL0.out,if_neg (by decide),HG.out]);have HE2:=Lib.hid (show insD rcD stD ds r=ds ++ [r] by unfold insD;rw [if_pos HE1.out,HG.out]);obtain ⟨i0,hi,hz0,hz1,hz2⟩:=info_parts Ins.infoRec;have HW:=Lib.hid br.size;clear hg hh0
     go_wp2_with fail;refine hFP.mono ?_;rintro e w3 ⟨rfl,hw⟩;rw [hw];clear hw w3;clear hFP;have hsz:wr.heap.size<=wr.heap.size:=Nat.le_refl _;have HRC:=Lib.hid (HD.out.1.below br)
     go_wp2_with (at_make;refine wpList_make_own _ rfl _ _ 22 rfl wr.heap.size 31 i0 Ins.zeroRec 39 Tryz.underlying22 hi hz0 hz1 .i64 .i64 _ (d+1) rfl rfl ?c1 ?c2 ?c3 ?c4 ?_)
     case c1=>first | rfl | (push_cast;rfl) | simp
     case c2=>rw [hz2];omega
     case c3=>unfold maxLen;omega
     case c4=>simp
     intro w5 hown5 hg5;have k5:Kp (fun b=>b=wr.heap.size) wr w5:=Kp.of_grown hg5 (fun q e _=>by cases e);have z5:wr.heap.size < w5.heap.size:=(hown5.lt wr.heap.size rfl).2;have hbs:=br.size;have br5:Below w.heap.size w w5:=br.trans (k5.below hbs (fun i hi e=>by omega));have HDW:=Lib.hid (HD.out.1.below br5);obtain ⟨v6,w6,xs,hrun,hown6,hrows6,hg6,hat6⟩:=app_recs (S:=fun b=>b < w.heap.size) hown5 HDW.out HD.out.2 (fun b hb=>⟨by omega,by omega⟩) (by have:=HDL.out;omega) (by omega);rw [HDL.out] at hown6;obtain ⟨a6,c6,rfl⟩:=Tab.own_len hown6;have k56:Kp (fun b=>b=wr.heap.size) w5 w6:=Kp.of_grown hg6 (fun q e _=>(Option.some.inj e).symm);have k6:Kp (fun b=>b=wr.heap.size) wr w6:=k5.then k56;have z6:=k56.size;have br6:Below w.heap.size w w6:=br.trans (k6.below hbs (fun i hi e=>by omega));have hlw:w.heap.size < wr.heap.size:=((X1.out.below bq).bx).lt;have hr6:w6.rangeAt w.heap.size 0 cs:=by
      have:=(((Y1.out.below bq).kp k6 (by omega))).range
      simpa using this
     have HO6:=Lib.hid hown6;have HR6:=Lib.hid hrows6;have HAT:=Lib.hid hat6;have HRC6:=Lib.hid (HRD.out.below br6);have hu:=Tryz.underlying31;clear hown6 hrows6 hat6 hown5 hg5 hg6
     go_wp2_with (first
      | (at_builtin;go_loud (refine Twin.wpList_append_run rfl _ _ 22 rfl _ _ _ _ rfl rfl hrun ?_))
      | (refine wpList_load_mid rfl 31 _ (by rfl) w.heap.size 0 (by rfl) cs _ hr6 hu rfl (by rw [HCL.out];kernel_rfl) ?_))
     refine (Twin.twinC (fun b=>b < w.heap.size) r cs w6 HRC6.out HCAP.out HB.out).mono ?_;rintro e w7 ⟨cs7,rfl,hrec7,b7⟩;have hol7:=hrec7.rec.length;have hoc7:=Tab.recOne hrec7.rec;have HREC7:=Lib.hid hrec7.rec;have how7:=Copy.own_below HO6.out b7;have z7:=b7.size;clear hrun hr6 hrec7
     go_wp2_with (at_builtin;rw [fold_zip cs7 _ (by rw [hol7];rfl)];go_loud (refine wpList_append_own_at _ rfl _ _ 22 rfl wr.heap.size 31 i0 Ins.zeroRec 39 136 Tryz.underlying22 hi hz0 hz1 hz2 rfl (by decide) _ _ _ rfl (how7.alloc _) ⟨w7.heap.size,0,none⟩ 1 1 cs7 rfl (by rw [hol7]) (by have:=World.news_of_block (cs:=cs7.toArray) (t:=31) (fr:=(0,0)) (heap_alloc_new w7 _);simpa using this) hoc7 (by unfold maxLen;omega) (by omega) (by simp;omega) ?_;intro v' w9 hown9 hgrow hnil hat;have HN9:=Lib.hid hown9;have HG9:=Lib.hid hgrow;have HAT9:=Lib.hid hat;clear hown9 hgrow hnil hat))
     go_ret2;rw [HE1.out,HE2.out];have hba:Below w7.heap.size w7 (w7.alloc (.cells cs7.toArray 31)):=(Below.refl _ w7).alloc (Nat.le_refl _) _;have k79:Kp (fun b=>(Value.slice a6 d c6).ownBlock=some b) w7 w9:=(Kp.of_below hba).then (Kp.of_grown HG9.out (fun r e _=>e));have hold:∀b,(Value.slice a6 d c6).ownBlock=some b->wr.heap.size<=b/\b < w6.heap.size:=fun b e=>HO6.out.lt b e
     have br7:Below w.heap.size w w7:=br6.trans (b7.mono br6.size);have br9:Below w.heap.size w w9:=br7.trans (k79.below br7.size (fun i hi e=>by have:=(hold i e).1;omega));have z9:=k79.size;obtain ⟨a9,c9,rfl⟩:=Tab.own_len HN9.out;have hq1:=(HR6.out.ag (Ag.of_below b7)).ag (Ag.of_kp k79 (fun b _ hS hM=>by have h0:b < w.heap.size:=hS;have:=(hold b hM).1;omega));have hq2:=HREC7.out.ag (Ag.of_kp k79 (fun b _ hS hM=>by have h0:w6.heap.size<=b:=hS;have:=(hold b hM).2;omega));have hrows:=(hq1.mono (S':=fun b=>b < w9.heap.size) (fun b hb=>by have h0:b < w.heap.size:=hb;show b < w9.heap.size;omega)).snoc (hq2.sub (S':=fun b=>b < w9.heap.size) (fun b hb _=>hb));have hlen9:(ds ++ [r]).length=d+1:=(by rw [List.length_append,HDL.out];rfl);refine ⟨_,rfl,⟨?_,fun n c e=>?_⟩,br9⟩
     · have h1:=HN9.out;rw [←hlen9] at h1;have h2:=recs_of h1 hrows (fun b hb=>(h1.lt b hb).2);rw [hlen9] at h2;exact h2
     · rcases HN9.out.2 with ⟨_,h0⟩ | ⟨g,cap,cur,hv,_⟩
       · omega
       · rw [hv] at e;cases e
set_option maxHeartbeats 4000000 in
set_option maxRecDepth 20000 in
theorem stockC (v:Value) (l:List Rec) (w:World) (hr:Op.RecsN (fun b=>b < w.heap.size) w v l) (hb:Op.bulkR l<=2097152) :
 Calls Tryz.prog 42 #[v] w fun e w'=>∃v',e = .returned v'/\RecsD w' v' (stockD rcD stD [] l)/\Below w.heap.size w w':=by
 obtain ⟨ao,cap,rfl,hlc,hcm,hel⟩:=id hr;have HR:=Lib.hid hr;have HB:=Lib.hid hb;have hll:=bulkR_len l;have hnl:l.length<=1048576:=(by omega);obtain ⟨n,hn⟩:∃n,l.length=n:=⟨_,rfl⟩;rw [hn] at hnl ⊢;have HN:=Lib.hid hn;clear hr hb hlc hcm hel hll hn
 go_enter Tryz.func42,Tryz.ntmps42
 go_wp2_with fail
 go_loopw [3,4] (fun s i wr=>∃k:Nat,k<=n/\i = .int .i64 k/\Hid (RecsD wr s (stockD rcD stD [] (l.take k)))/\Below w.heap.size w wr) (fun _ i _=>n - (intOf i).toNat)
 case atStart=>exact ⟨0,Nat.zero_le _,rfl,Lib.hid (by rw [List.take_zero];exact RecsD.nil w),Below.refl _ _⟩
 case round =>
  obtain ⟨k,hk,rfl,hst,br⟩:=hrel;by_cases hlt:k < n
  · have hkl:k < l.length:=(by rw [HN.out];exact hlt);obtain ⟨a2,c2,hv2,_,_,hel⟩:=HR.out.below br;rcases hel with h0 | ⟨rb,ro,ha,_,hel⟩
    · rw [h0] at hkl;simp at hkl
    injection hv2 with e1 e2 e3;rw [ha] at e1;subst e1;clear e2 e3;obtain ⟨cs,hrg,hrec,hcap⟩:=hel k hkl;have hcl:=hrec.length;have e0:(0:Int)<=(k:Int):=Int.natCast_nonneg _;have e1:(k:Int) < (n:Int):=(by omega);have HNEXT:=Lib.hid (stockD_take (rc:=rcD) (st:=stD) [] l k hkl);have hbk:l[k].bulk+2<=Op.bulkR l:=bulkR_mem (List.getElem_mem hkl);have hbb:=HB.out;have hdl:=stockD_len (rc:=rcD) (st:=stD) (l.take k) [];rw [List.length_take,List.length_nil] at hdl;have hI:=insertC u3 (stockD rcD stD [] (l.take k)) l[k] cs wr hst.out (hrec.sub fun b _ hb=>Nat.lt_of_lt_of_le hb br.size) hcap (by omega) (fun x hx=>by
     rcases stockD_mem (l.take k) [] x hx with h | h
     · cases h
     · have:=bulkR_mem (List.mem_of_mem_take h);omega) (by omega)
    have HI:=Lib.hid hI;clear hel hrec hcap ha hI hdl hst hbk hbb
    go_wp2_with (refine wpList_load_mid rfl 31 _ (by rfl) rb (ro+k*39) (by rfl) cs _ hrg Tryz.underlying31 rfl (by rw [hcl];kernel_rfl) ?_)
    refine HI.out.mono ?_;rintro e w2 ⟨v2,rfl,hD,b2⟩;have HD2:=Lib.hid hD;have B2:=br.trans (b2.mono br.size);clear hD hrg HI
    go_wp2_with fail
    go_roundw
    case rel=>exact ⟨k+1,by omega,by go_num,Lib.hid (by rw [HNEXT.out];exact HD2.out),B2⟩
    case measure=>simp [intOf];omega
  · obtain rfl:k=n:=(by omega)
    go_wp2_with fail
    go_ret;have h:=hst.out;rw [List.take_of_length_le (by rw [HN.out];exact Nat.le_refl _)] at h;exact ⟨_,rfl,h,br⟩
end Go.Proofs.YtmmmghpimdfleaaGreatDoor.DSt

namespace Go.Proofs.YtmmmghpimdfleaaGreatDoor.DSt
open Go.RowKit Mem Tr St Swp DFd
open Go.Proofs.YtmmmghpimdfleaaGreatDoor.Own
def PostClD (w:World) (ds:List Rec) (roots:List ByteArray) (e:Ending) (w':World):Prop :=
 ∃v L,e = .returned (.tuple #[v,.int .i64 0])/\w'.ownsRow w.heap.size 9 1 v L.length (L.map .string)/\Srt.Ris L/\(∀p,p∈L↔Rch ds roots p)/\Below w.heap.size w w'
set_option maxHeartbeats 8000000 in
set_option maxRecDepth 20000 in
theorem closureC (v rv:Value) (ds:List Rec) (roots:List ByteArray) (w:World) (h:RecsD w v ds) (hro:Strs (fun b=>b < w.heap.size) w rv roots) (hn:ds.length<=1048576) (hrn:roots.length<=1048576) (hh:∀p∈roots,Sto.has ds p=true) (hc:∀r∈ds,∀q∈r.refs,Sto.has ds q=true) (hinj:∀a∈ds,∀b∈ds,a.path=b.path->a=b) (hbd:∀x∈ds,x.bulk<=4194304) :
 Calls Tryz.prog 94 #[v,rv] w (PostClD w ds roots):=by
 have HD:=Lib.hid h;have HRO:=Lib.hid hro;have HH:=Lib.hid hh;have HC:=Lib.hid hc;have HINJ:=Lib.hid hinj;have HBD:=Lib.hid hbd;obtain ⟨ao0,cap0,rfl,_,_,_⟩:=h.1;obtain ⟨d,hd⟩:∃d,ds.length=d:=⟨_,rfl⟩;have HDL:=Lib.hid hd;rw [hd] at hn HD ⊢;obtain ⟨ao,cap,rfl,_,_,_⟩:=hro;obtain ⟨m,hm⟩:∃m,roots.length=m:=⟨_,rfl⟩;have HM:=Lib.hid hm;rw [hm] at hrn HRO ⊢;have HFI:=Lib.hid (show ∀q W,Below w.heap.size w W->Calls Tryz.prog 93 #[.slice ao0 d cap0,.string q] W fun e w'=>e = .returned (.int .i64 (findI ds q))/\w'=W from fun q W hb=>findC _ _ ds q W (HD.out.1.below hb) (by have:=HDL.out;omega));obtain ⟨i0,hi,hz0,hz1,hz2⟩:=info_parts Make.infoStr;clear h hh hc hinj hbd hd hm
 go_enter Tryz.func94,Tryz.ntmps94
 go_wp2_with fail
 go_loopw [6,7] (fun o i wr=>∃ (k g:Nat) (a:Option Addr) (c:Nat) (gl:List ByteArray),k<=m/\i = .int .i64 k/\o = .slice a g c/\Hid (gl.length=g)/\Hid (wr.ownsRow w.heap.size 9 1 (.slice a g c) g (gl.map .string))/\Hid (Cl0 ds roots gl k)/\g<=m/\Below w.heap.size w wr) (fun _ i _=>m - (intOf i).toNat)
 case atStart=>exact ⟨0,0,none,0,[],Nat.zero_le _,rfl,rfl,Lib.hid rfl,Lib.hid (by simpa using World.ownsRow_nil _ _ _ _),Lib.hid (Cl0.start _ _),Nat.zero_le _,Below.refl _ _⟩
 case round =>
  obtain ⟨k,g,a,c,gl,hk,rfl,rfl,HGL,HOW,HCL,hgm,hb⟩:=hrel;have e0:(0:Int)<=(k:Int):=Int.natCast_nonneg _;by_cases hlt:k < m
  · have e1:(k:Int) < (m:Int):=(by omega);have hkl:k < roots.length:=(by rw [HM.out];exact hlt);obtain ⟨rb,ro,rcap,hrv,hcells⟩:=strs_at (HRO.out.below hb) (by omega);injection hrv with hrv1 hrv2 hrv3;subst hrv1;clear hrv2 hrv3;have gk:=hcells k hkl;obtain ⟨q,hq⟩:∃q,roots[k]=q:=⟨_,rfl⟩;rw [hq] at gk;have HQ:=Lib.hid hq;have hqh:Sto.has ds q=true:=HH.out q (by rw [←hq];exact List.getElem_mem hkl);unfold Sto.has at hqh;obtain ⟨r,hr⟩:=Option.isSome_iff_exists.1 hqh;obtain ⟨z,_,hz,_⟩:=find_some hr;have hF:=HFI.out q wr hb;rw [hz] at hF;have HF:=Lib.hid hF;have z0:¬(z:Int) < 0:=(by omega);have hsz:=hb.size;have hread:=Lib.hid (Strs.of_own (l:=gl) (by rw [HGL.out];exact HOW.out)).reads;have hglm:gl.length<=1099511627776:=(by rw [HGL.out];omega);clear hcells hq hqh hr hz hF
    go_wp2_with fail;refine HF.out.mono ?_;rintro e w3 ⟨rfl,hw⟩;rw [hw];clear hw w3 HF
    go_wp2_with fail;refine (hasC _ gl q wr hread.out (by omega)).mono ?_;rintro e w4 ⟨rfl,hw⟩;rw [hw];clear hw w4;by_cases hin:inL gl q=true
    · have HNC:=Lib.hid (HCL.out.skip hkl (by rw [HQ.out];exact inL_iff.1 hin));rw [hin]
      go_wp2_with fail
      go_roundw
      case rel=>exact ⟨k+1,g,_,c,gl,by omega,by go_num,rfl,HGL,HOW,HNC,by omega,hb⟩
      case measure=>simp [intOf];omega
    · have hin2:inL gl q=false:=(by cases hx:inL gl q;rfl;exact absurd hx hin);have hnm:roots[k] ∉ gl:=(by rw [HQ.out];exact fun hx=>hin (inL_t hx));have HNC:=Lib.hid (HCL.out.take hkl hnm);have hgl2:(gl ++ [q]).length<=m:=(by have h1:=nodup_len HNC.out.nodup (b:=roots.take (k+1)) (fun x hx=>(HNC.out.mem x).1 hx);rw [List.length_take] at h1;rw [HQ.out] at h1;omega);have hgl3:g+1<=m:=(by rw [List.length_append,HGL.out] at hgl2;simpa using hgl2);rw [hin2];have hown2:=HOW.out;have HO2:=Lib.hid hown2;clear hin hin2 hnm hgl2
      go_wp2_with (at_builtin;go_loud (refine wpList_append_own _ rfl _ _ 27 rfl w.heap.size 9 i0 (.string ⟨#[]⟩) 1 16 Tryz.underlying27 hi hz0 hz1 hz2 rfl (by decide) _ _ _ rfl (hown2.alloc _) ⟨wr.heap.size,0,none⟩ 1 1 [.string q] rfl rfl (cell_one_new _ _ _) (by simp [Value.oneCell']) (by unfold maxLen;omega) (by omega) (by simp;omega) ?_;intro v' w8 hown8 hgrow hnil;have HN8:=Lib.hid hown8;have HG8:=Lib.hid hgrow;clear hown8 hgrow hnil))
      have hba:Below wr.heap.size wr (wr.alloc (.cells #[.string q] 9)):=(Below.refl _ wr).alloc (Nat.le_refl _) _;have hB8:=(hb.trans (hba.mono hb.size)).grown HG8.out (by have:=hba.size;omega) (fun g e=>(HO2.out.lt g e).1);obtain ⟨a8,c8,rfl⟩:=Tab.own_len HN8.out;clear hown2;have HL2:=Lib.hid (show (gl ++ [q]).length=g+1 by rw [List.length_append,HGL.out];rfl);rw [HQ.out] at HNC
      go_roundw
      case rel=>exact ⟨k+1,g+1,a8,c8,gl ++ [q],by omega,by go_num,rfl,HL2,Lib.hid (by rw [List.map_append];exact HN8.out),HNC,hgl3,hB8⟩
      case measure=>simp [intOf];omega
  · obtain rfl:k=m:=(by omega);have HC1:=Lib.hid (HCL.out.done (by rw [HM.out];exact Nat.le_refl _) HH.out);clear HCL
    go_wp2_with fail;generalize wr=wz at *
    go_loopw [6,8,9,10] (fun o i _ _ wr=>∃ (j g:Nat) (a:Option Addr) (c:Nat) (gl:List ByteArray),j<=g/\i = .int .i64 j/\o = .slice a g c/\Hid (gl.length=g)/\Hid (wr.ownsRow w.heap.size 9 1 (.slice a g c) g (gl.map .string))/\Hid (Cl ds roots gl j)/\g<=d/\Below w.heap.size w wr) (fun _ i _ _ _=>d+1 - (intOf i).toNat)
    case atStart=>exact ⟨0,g,a,c,gl,Nat.zero_le _,rfl,rfl,HGL,HOW,HC1,by have h1:=gl_len HC1.out.nodup HC1.out.has;rw [HGL.out,HDL.out] at h1;exact h1,hb⟩
    case round =>
     clear HGL HOW HC1 hb hgm;obtain ⟨j,g,a,c,gl,hj,rfl,rfl,HGL,HOW,HCL,hgd,hb⟩:=hrel;have f0:(0:Int)<=(j:Int):=Int.natCast_nonneg _;by_cases hlj:j < g
     · have f1:(j:Int) < (g:Int):=(by omega);have hjl:j < gl.length:=(by rw [HGL.out];exact hlj);obtain ⟨gb,go,gcap,hgv,hgc⟩:=strs_at (Strs.of_own (l:=gl) (by rw [HGL.out];exact HOW.out)) (by omega);rw [HGL.out] at hgv;injection hgv with hgv1 hgv2 hgv3;subst hgv1;clear hgv2 hgv3;have gk:=hgc j hjl;have hph:Sto.has ds gl[j]=true:=HCL.out.has _ (List.getElem_mem hjl);unfold Sto.has at hph;obtain ⟨r,hr⟩:=Option.isSome_iff_exists.1 hph;have HC2:=Lib.hid (Cl2.start HCL.out hjl hr);obtain ⟨z,hzl,hz,hzo⟩:=find_some hr;obtain ⟨p,hp⟩:∃p,gl[j]=p:=⟨_,rfl⟩;rw [hp] at gk hz;have hF:=HFI.out p wr hb;rw [hz] at hF;have HF:=Lib.hid hF;have hrm:=(Sp.get_some hr).1;have hrbk:=HBD.out r hrm;obtain ⟨ad,capd,hvd,_,_,hkd⟩:=HD.out.1;injection hvd with hv1 hv2 hv3;subst hv1;rcases hkd with h0 | ⟨sb,so,hsb,hSb,hkd⟩
       · rw [h0] at hzl;simp at hzl
       subst hsb;obtain ⟨oc,hrg,hrec⟩:=hkd z hzl;rw [hzo] at hrec;have hol:=hrec.length;have hoc:=Tab.recOne hrec;have hrgW:wr.rangeAt sb (so+z*39) oc:=St.range_below hrg hb;obtain ⟨kv,rv2,hoe,hhs,_,hrefs⟩:=hrec;have HRF:=Lib.hid hrefs;obtain ⟨ao2,cap2,hrv2,_,_,_⟩:=hrefs;obtain ⟨n,hnn⟩:∃n,r.refs.length=n:=⟨_,rfl⟩;rw [hnn] at hrv2;subst hrv2;have HN:=Lib.hid hnn;have HOE:=Lib.hid hoe;have hnb:n<=4194304:=(by have:=length_bulks r.refs;unfold Rec.bulk at hrbk;omega);have z0:(0:Int)<=(z:Int):=Int.natCast_nonneg _;have z1:(z:Int) < (d:Int):=(by have:=HDL.out;omega);have hu:=Tryz.underlying31;have hbs:=hb.size;clear hgc hph hr hz hp hF hrm hrbk hv2 hv3 hkd hSb hrg hzo hzl hnn hoe HCL hjl
       go_wp2_with fail;refine HF.out.mono ?_;rintro e w3 ⟨rfl,hw⟩;rw [hw];clear hw w3 HF
       go_wp2_with (first
        | (refine wpList_load_mid rfl 31 _ (by rfl) sb (so+z*39) (by rfl) oc _ hrgW hu rfl (by rw [hol];kernel_rfl) ?_)
        | (refine wpList_store_mid (by rfl) 31 _ _ (by rfl) wr.heap.size 0 oc.toArray (by rfl) (by rfl) ?s4 ?s5 ?s6 ?_;rotate_right;refine Mem.named ?_;intro W hW))
       case s4=>first | exact (Bx.new wr Ins.zeroRec.cells 31).there 39 rfl | exact (Bx.new wr Ins.zeroRec.cells 31).there _ (by rw [show oc.toArray.size=39 by simpa using hol];rfl)
       case s5=>first | exact infoEx | (rw [List.size_toArray,hol];kernel_rfl)
       case s6=>first | exact hoc | exact all_oneCell_toArray hoc
       have bW:=stash hW;have XW:=stash_bx hW hol.symm;have BW:=hb.trans (bW.mono hb.size);have XR:=Lib.hid (show RB W wr.heap.size r kv (.slice ao2 n cap2) from ⟨by rw [←HOE.out];exact XW,hhs⟩);have HOWW:=Lib.hid (Copy.own_below HOW.out bW);have hlW:w.heap.size<=wr.heap.size:=hbs;have HLT:=Lib.hid (show ∀b,(Value.slice (some ⟨gb,go,none⟩) g c).ownBlock=some b->b≠wr.heap.size from fun b e h0=>by have:=(HOW.out.lt b e).2;omega);clear hW XW bW hrgW hol hoc HOW hb hbs gk;generalize wr=wy at *
       go_loopw [6,10] (fun o i wr=>∃ (k2 g:Nat) (a:Option Addr) (c:Nat) (gl:List ByteArray),k2<=n/\i = .int .i64 k2/\o = .slice a g c/\Hid (gl.length=g)/\Hid (wr.ownsRow w.heap.size 9 1 (.slice a g c) g (gl.map .string))/\Hid (Cl2 ds roots gl j k2 r)/\g<=d/\Hid (RB wr wy.heap.size r kv (.slice ao2 n cap2))/\Hid (∀b,(Value.slice a g c).ownBlock=some b->b≠wy.heap.size)/\Below w.heap.size w wr) (fun _ i _=>n - (intOf i).toNat)
       case atStart=>exact ⟨0,g,_,c,gl,Nat.zero_le _,rfl,rfl,HGL,HOWW,HC2,hgd,XR,HLT,BW⟩
       case round =>
        clear HGL HOWW HC2 XR HLT BW hgd;generalize c=c0 at *;obtain ⟨k2,g2,a,c,gl2,hk2,rfl,rfl,HGL,HOW,HC2,hgd,XR,HLT,hb⟩:=hrel;have p0:(0:Int)<=(k2:Int):=Int.natCast_nonneg _;have g5:=XR.out.c5;by_cases hl2:k2 < n
        · have p1:(k2:Int) < (n:Int):=(by omega);have hkl:k2 < r.refs.length:=(by rw [HN.out];exact hl2);obtain ⟨rb,ro,rcap,hrv,hcells⟩:=strs_at (HRF.out.below hb) (by omega);rw [HN.out] at hrv;injection hrv with hrv1 hrv2 hrv3;subst hrv1;clear hrv2 hrv3;have gk:=hcells k2 hkl;obtain ⟨q,hq⟩:∃q,r.refs[k2]=q:=⟨_,rfl⟩;rw [hq] at gk;have HQ:=Lib.hid hq;have hsz:=hb.size;have hread:=Lib.hid (Strs.of_own (l:=gl2) (by rw [HGL.out];exact HOW.out)).reads;have hglm:gl2.length<=1099511627776:=(by rw [HGL.out];omega);clear hcells hq
          go_wp2_with fail;refine (hasC _ gl2 q wr hread.out (by omega)).mono ?_;rintro e w4 ⟨rfl,hw⟩;rw [hw];clear hw w4;by_cases hin:inL gl2 q=true
          · have HNC:=Lib.hid (HC2.out.skip hkl (by rw [HQ.out];exact inL_iff.1 hin));rw [hin]
            go_wp2_with fail
            go_roundw
            case rel=>exact ⟨k2+1,g2,_,c,gl2,by omega,by go_num,rfl,HGL,HOW,HNC,hgd,XR,HLT,hb⟩
            case measure=>simp [intOf];omega
          · have hin2:inL gl2 q=false:=(by cases hx:inL gl2 q;rfl;exact absurd hx hin);have hnm:r.refs[k2] ∉ gl2:=(by rw [HQ.out];exact fun hx=>hin (inL_t hx));have HNC:=Lib.hid (HC2.out.take hkl hnm HC.out);have hgl2:=gl_len HNC.out.cl.nodup HNC.out.cl.has;rw [List.length_append,HGL.out,HDL.out] at hgl2;have hgl3:g2+1<=d:=(by simpa using hgl2);rw [HQ.out] at HNC;rw [hin2];have hown2:=HOW.out;have HO2:=Lib.hid hown2;clear hin hin2 hnm hgl2
            go_wp2_with (at_builtin;go_loud (refine wpList_append_own_at _ rfl _ _ 27 rfl w.heap.size 9 i0 (.string ⟨#[]⟩) 1 16 Tryz.underlying27 hi hz0 hz1 hz2 rfl (by decide) _ _ _ rfl (hown2.alloc _) ⟨wr.heap.size,0,none⟩ 1 1 [.string q] rfl rfl (cell_one_new _ _ _) (by simp [Value.oneCell']) (by unfold maxLen;omega) (by omega) (by simp;omega) ?_;intro v' w8 hown8 hgrow hnil hat;have HN8:=Lib.hid hown8;have HG8:=Lib.hid hgrow;have HA8:Hid (v'.ownBlock=(Value.slice a g2 c).ownBlock∨v'.ownBlock=some (wr.alloc (.cells #[.string q] 9)).heap.size):=Lib.hid hat;clear hown8 hgrow hnil hat))
            have hba:Below wr.heap.size wr (wr.alloc (.cells #[.string q] 9)):=(Below.refl _ wr).alloc (Nat.le_refl _) _;have hB8:=(hb.trans (hba.mono hb.size)).grown HG8.out (by have:=hba.size;omega) (fun g e=>(HO2.out.lt g e).1);obtain ⟨a8,c8,rfl⟩:=Tab.own_len HN8.out;have k8:Kp (fun b=>(Value.slice a g2 c).ownBlock=some b) wr w8:=(Kp.of_below hba).then (Kp.of_grown HG8.out (fun r e _=>e));have hyl:wy.heap.size < wr.heap.size:=XR.out.bx.lt;have X8:=Lib.hid (show RB w8 wy.heap.size r kv (.slice (some ⟨rb,ro,none⟩) n cap2) from ⟨XR.out.bx.kp k8 (fun e=>HLT.out _ e rfl),XR.out.hl⟩);have HLT8:=Lib.hid (show ∀b,(Value.slice a8 (g2+1) c8).ownBlock=some b->b≠wy.heap.size from fun b e=>by
             rcases HA8.out with h | h
             · rw [h] at e;exact HLT.out b e
             · rw [h] at e;have h1:=Option.some.inj e;rw [World.size_alloc] at h1;omega)
            clear hown2 HA8;have HL2:=Lib.hid (show (gl2 ++ [q]).length=g2+1 by rw [List.length_append,HGL.out];rfl)
            go_roundw
            case rel=>exact ⟨k2+1,g2+1,a8,c8,gl2 ++ [q],by omega,by go_num,rfl,HL2,Lib.hid (by rw [List.map_append];exact HN8.out),HNC,hgl3,X8,HLT8,hB8⟩
            case measure=>simp [intOf];omega
        · obtain rfl:k2=n:=(by omega);have HC3:=Lib.hid (HC2.out.done (by rw [HN.out];exact Nat.le_refl _));have hjg:j+1<=g2:=(by have:=HC2.out.at'.1;rw [HGL.out] at this;exact this)
          go_wp2_with fail
          go_roundw
          case rel=>exact ⟨j+1,g2,_,c,gl2,hjg,by go_num,rfl,HGL,HOW,HC3,hgd,hb⟩
          case measure=>simp [intOf];omega
     · obtain rfl:j=g:=(by omega);have HE:=Lib.hid (fun p=>HCL.out.end (by rw [HGL.out];exact Nat.le_refl _) HINJ.out p);have hst:=Lib.hid ((Strs.of_own (l:=gl) (by rw [HGL.out];exact HOW.out)).sub (S':=fun b=>b < wr.heap.size) (fun q h1 _=>h1))
       go_wp2_with fail;refine (Srtd.sortedC _ gl wr hst.out (by rw [HGL.out];omega)).mono ?_;rintro e w9 ⟨out,⟨v9,rfl,ho,hb9⟩,hris,hm⟩;have HO:=Lib.hid (own_down ho hb.size);have HRI:=Lib.hid hris;have HME:=Lib.hid hm;have hbb:=hb.trans (hb9.mono hb.size);clear ho hb9 hris hm
       go_wp2_with fail
       go_ret2;exact ⟨v9,out,rfl,HO.out,HRI.out,fun p=>(HME.out p).trans (HE.out p),hbb⟩
end Go.Proofs.YtmmmghpimdfleaaGreatDoor.DSt

namespace Go.Proofs.YtmmmghpimdfleaaGreatDoor.DSt
open Go.RowKit Mem Tr St Swp DFd
open Go.Proofs.YtmmmghpimdfleaaGreatDoor.Own
theorem ris_nodup {l:List ByteArray} (h:Srt.Ris l):l.Nodup:=by
 rw [List.nodup_iff_pairwise_ne];exact List.Pairwise.imp (fun h1 e=>by subst e;rw [Sp.lt_irrefl] at h1;cases h1) h
theorem deadB_take (all live:List ByteArray) {k:Nat} (h:k < all.length):deadB (all.take (k+1)) live=deadB (all.take k) live ++ (if inL live all[k]=true then [] else [all[k]]):=by
 rw [List.take_succ_eq_append_getElem h];unfold deadB;rw [List.filter_append];congr 1;unfold inL;by_cases hx:(live.any fun q=>decide (q=all[k]))=true
 · rw [if_pos hx];simp [hx]
 · rw [if_neg hx];have hy:(live.any fun q=>decide (q=all[k]))=false:=(by cases hz:(live.any fun q=>decide (q=all[k]));rfl;exact absurd hz hx);simp [hy]
set_option maxHeartbeats 8000000 in
set_option maxRecDepth 20000 in
theorem live19C (v rv:Value) (ds:List Rec) (roots:List ByteArray) (w:World) (h:RecsD w v ds) (hro:Strs (fun b=>b < w.heap.size) w rv roots) (hn:ds.length<=1048576) (hrn:roots.length<=1048576) (hc:∀r∈ds,∀q∈r.refs,Sto.has ds q=true) (hinj:∀a∈ds,∀b∈ds,a.path=b.path->a=b) (hbd:∀x∈ds,x.bulk<=4194304) :
 Calls Tryz.prog 44 #[v,rv] w (PostLive w ds roots):=by
 have HD:=Lib.hid h;have HRO:=Lib.hid hro;have HC:=Lib.hid hc;have HINJ:=Lib.hid hinj;have HBD:=Lib.hid hbd;obtain ⟨ao0,cap0,rfl,_,_,_⟩:=h.1;obtain ⟨d,hd⟩:∃d,ds.length=d:=⟨_,rfl⟩;have HDL:=Lib.hid hd;rw [hd] at hn HD ⊢;obtain ⟨ao,cap,rfl,_,_,_⟩:=hro;obtain ⟨m,hm⟩:∃m,roots.length=m:=⟨_,rfl⟩;have HM:=Lib.hid hm;rw [hm] at hrn HRO ⊢;have HFI:=Lib.hid (show ∀q W,Below w.heap.size w W->Calls Tryz.prog 93 #[.slice ao0 d cap0,.string q] W fun e w'=>e = .returned (.int .i64 (findI ds q))/\w'=W from fun q W hb=>findC _ _ ds q W (HD.out.1.below hb) (by have:=HDL.out;omega));obtain ⟨i0,hi,hz0,hz1,hz2⟩:=info_parts Make.infoStr;clear h hc hinj hbd hd hm
 go_enter Tryz.func44,Tryz.ntmps44
 go_wp2_with fail
 go_loopw [5,6] (fun o i wr=>∃ (k g:Nat) (a:Option Addr) (c:Nat) (gl:List ByteArray),k<=m/\i = .int .i64 k/\o = .slice a g c/\Hid (gl.length=g)/\Hid (wr.ownsRow w.heap.size 9 1 (.slice a g c) g (gl.map .string))/\Hid (gl=there ds (roots.take k))/\g<=k/\Below w.heap.size w wr) (fun _ i _=>m - (intOf i).toNat)
 case atStart=>exact ⟨0,0,none,0,[],Nat.zero_le _,rfl,rfl,Lib.hid rfl,Lib.hid (by simpa using World.ownsRow_nil _ _ _ _),Lib.hid rfl,Nat.zero_le _,Below.refl _ _⟩
 case round =>
  obtain ⟨k,g,a,c,gl,hk,rfl,rfl,HGL,HOW,HTH,hgk,hb⟩:=hrel;have e0:(0:Int)<=(k:Int):=Int.natCast_nonneg _;by_cases hlt:k < m
  · have e1:(k:Int) < (m:Int):=(by omega);have hkl:k < roots.length:=(by rw [HM.out];exact hlt);obtain ⟨rb,ro,rcap,hrv,hcells⟩:=strs_at (HRO.out.below hb) (by omega);injection hrv with hrv1 hrv2 hrv3;subst hrv1;clear hrv2 hrv3;have gk:=hcells k hkl;obtain ⟨q,hq⟩:∃q,roots[k]=q:=⟨_,rfl⟩;rw [hq] at gk;have HTS:=Lib.hid (show there ds (roots.take (k+1))=there ds (roots.take k) ++ (if Sto.has ds q=true then [q] else []) by rw [List.take_succ_eq_append_getElem hkl,hq,there_snoc]);have hF:=HFI.out q wr hb;have hsz:=hb.size;clear hcells hq;by_cases hqh:Sto.has ds q=true
    · have HN2:=Lib.hid (show there ds (roots.take (k+1))=gl ++ [q] by rw [HTS.out,if_pos hqh,HTH.out]);unfold Sto.has at hqh;obtain ⟨r,hr⟩:=Option.isSome_iff_exists.1 hqh;obtain ⟨z,_,hz,_⟩:=find_some hr;rw [hz] at hF;have HF:=Lib.hid hF;have z0:(0:Int)<=(z:Int):=(by omega);clear hqh hr hz hF;have hown2:=HOW.out;have HO2:=Lib.hid hown2
      go_wp2_with fail;refine HF.out.mono ?_;rintro e w3 ⟨rfl,hw⟩;rw [hw];clear hw w3 HF
      go_wp2_with (at_builtin;go_loud (refine wpList_append_own _ rfl _ _ 27 rfl w.heap.size 9 i0 (.string ⟨#[]⟩) 1 16 Tryz.underlying27 hi hz0 hz1 hz2 rfl (by decide) _ _ _ rfl (hown2.alloc _) ⟨wr.heap.size,0,none⟩ 1 1 [.string q] rfl rfl (cell_one_new _ _ _) (by simp [Value.oneCell']) (by unfold maxLen;omega) (by omega) (by simp;omega) ?_;intro v' w8 hown8 hgrow hnil;have HN8:=Lib.hid hown8;have HG8:=Lib.hid hgrow;clear hown8 hgrow hnil))
      have hba:Below wr.heap.size wr (wr.alloc (.cells #[.string q] 9)):=(Below.refl _ wr).alloc (Nat.le_refl _) _;have hB8:=(hb.trans (hba.mono hb.size)).grown HG8.out (by have:=hba.size;omega) (fun g e=>(HO2.out.lt g e).1);obtain ⟨a8,c8,rfl⟩:=Tab.own_len HN8.out;clear hown2;have HL2:=Lib.hid (show (gl ++ [q]).length=g+1 by rw [List.length_append,HGL.out];rfl)
      go_roundw
      case rel=>exact ⟨k+1,g+1,a8,c8,gl ++ [q],by omega,by go_num,rfl,HL2,Lib.hid (by rw [List.map_append];exact HN8.out),Lib.hid HN2.out.symm,by omega,hB8⟩
      case measure=>simp [intOf];omega
    · have HN2:=Lib.hid (show there ds (roots.take (k+1))=gl by rw [HTS.out,if_neg hqh,List.append_nil,HTH.out]);have hq3:Sto.has ds q=false:=(by cases hh:Sto.has ds q;rfl;exact absurd hh hqh);rw [find_none hq3] at hF;have HF:=Lib.hid hF;clear hqh hq3 hF
      go_wp2_with fail;refine HF.out.mono ?_;rintro e w3 ⟨rfl,hw⟩;rw [hw];clear hw w3 HF
      go_wp2_with fail
      go_roundw
      case rel=>exact ⟨k+1,g,_,c,gl,by omega,by go_num,rfl,HGL,HOW,Lib.hid HN2.out.symm,by omega,hb⟩
      case measure=>simp [intOf];omega
  · obtain rfl:k=m:=(by omega);have HT:=Lib.hid (show gl=there ds roots by have h:=HTH.out;rwa [List.take_of_length_le (by rw [HM.out];exact Nat.le_refl _)] at h);have hst:=Lib.hid ((Strs.of_own (l:=gl) (by rw [HGL.out];exact HOW.out)).sub (S':=fun b=>b < wr.heap.size) (fun q h1 _=>h1));have hCL:=closureC (.slice ao0 d cap0) _ ds gl wr (HD.out.below hb) hst.out (by rw [HDL.out];exact hn) (by rw [HGL.out];omega) (fun p hp=>by
     rw [HT.out] at hp;unfold there at hp;exact (List.mem_filter.1 hp).2) HC.out HINJ.out HBD.out
    have HCLL:=Lib.hid hCL;clear hCL
    go_wp2_with fail;refine HCLL.out.mono ?_;rintro e w9 ⟨v9,L,rfl,ho,hris,hm,hb9⟩;have HO:=Lib.hid (own_down ho hb.size);have HRI:=Lib.hid hris;have HME:=Lib.hid hm;have hbb:=hb.trans (hb9.mono hb.size);clear ho hb9 hris hm
    go_wp2_with fail
    go_ret;refine ⟨L,⟨v9,rfl,HO.out,hbb⟩,HRI.out,fun p=>?_⟩;unfold Lives;rw [←HT.out];exact HME.out p
set_option maxHeartbeats 8000000 in
set_option maxRecDepth 20000 in
theorem dead19C (v rv:Value) (ds:List Rec) (roots:List ByteArray) (w:World) (h:RecsD w v ds) (hro:Strs (fun b=>b < w.heap.size) w rv roots) (hn:ds.length<=1048576) (hrn:roots.length<=1048576) (hc:∀r∈ds,∀q∈r.refs,Sto.has ds q=true) (hinj:∀a∈ds,∀b∈ds,a.path=b.path->a=b) (hbd:∀x∈ds,x.bulk<=4194304) :
 Calls Tryz.prog 46 #[v,rv] w fun e w'=>∃all live,PostTexts w (deadB all live) e w'/\Srt.Ris all/\(∀p,p∈all↔p∈ds.map Rec.path)/\∀p,p∈live↔Lives ds roots p:=by
 have hL:=live19C v rv ds roots w h hro hn hrn hc hinj hbd;have HP:=Lib.hid (fun W (hb:Below w.heap.size w W)=>pathsC _ v ds W (h.below hb).1 hn);have HCC:=Lib.hid hc;obtain ⟨ao0,cap0,rfl,_,_,_⟩:=h.1;obtain ⟨d,hd⟩:∃d,ds.length=d:=⟨_,rfl⟩;have HDL:=Lib.hid hd;rw [hd] at hn hL HP ⊢;obtain ⟨ao,cap,rfl,_,_,_⟩:=hro;obtain ⟨m,hm⟩:∃m,roots.length=m:=⟨_,rfl⟩;rw [hm] at hL ⊢;obtain ⟨i0,hi,hz0,hz1,hz2⟩:=info_parts Make.infoStr;have HL:=Lib.hid hL;clear h hc hbd hd hm hL hrn hinj
 go_enter Tryz.func46,Tryz.ntmps46
 go_wp2_with fail;refine HL.out.mono ?_;rintro e w1 ⟨live,⟨v1,rfl,ho1,b1⟩,hris1,hm1⟩;have HR1:=Lib.hid (Strs.of_own ho1);have HLI:=Lib.hid hm1;have hll:live.length<=1048576:=by
  have h1:=gl_len (ds:=ds) (ris_nodup hris1) (fun p hp=>lives_has HCC.out ((hm1 p).1 hp));have:=HDL.out;omega
 clear ho1 hris1 hm1 HL
 go_wp2_with fail;refine (HP.out w1 b1).mono ?_;rintro e w2 ⟨all,⟨v2,rfl,ho2,b2⟩,hris2,hm2⟩;have B2:=b1.trans (b2.mono b1.size);have HR2:=Lib.hid (HR1.out.below b2);have HA2:=Lib.hid ((Strs.of_own ho2).sub (S':=fun b=>b < w2.heap.size) (fun q h1 _=>h1));have HRI:=Lib.hid hris2;have HAL:=Lib.hid hm2;have hal:all.length<=1048576:=by
  have h1:=nodup_len (ris_nodup hris2) (fun p hp=>(hm2 p).1 hp);rw [List.length_map] at h1;have:=HDL.out;omega
 obtain ⟨a2,c2,rfl⟩:=Tab.own_len ho2;obtain ⟨n,hnn⟩:∃n,all.length=n:=⟨_,rfl⟩;rw [hnn] at hal HA2 ⊢;have HN:=Lib.hid hnn;clear ho2 hris2 hm2 hnn b1 b2
 go_wp2_with fail
 go_loopw [7,8] (fun o i wr=>∃ (k g:Nat) (a:Option Addr) (c:Nat) (gl:List ByteArray),k<=n/\i = .int .i64 k/\o = .slice a g c/\Hid (gl.length=g)/\Hid (wr.ownsRow w2.heap.size 9 1 (.slice a g c) g (gl.map .string))/\Hid (gl=deadB (all.take k) live)/\g<=k/\Below w.heap.size w wr/\Below w2.heap.size w2 wr) (fun _ i _=>n - (intOf i).toNat)
 case atStart=>exact ⟨0,0,none,0,[],Nat.zero_le _,rfl,rfl,Lib.hid rfl,Lib.hid (by simpa using World.ownsRow_nil _ _ _ _),Lib.hid rfl,Nat.zero_le _,B2,Below.refl _ _⟩
 case round =>
  obtain ⟨k,g,a,c,gl,hk,rfl,rfl,HGL,HOW,HTH,hgk,hb,hb2⟩:=hrel;have e0:(0:Int)<=(k:Int):=Int.natCast_nonneg _;by_cases hlt:k < n
  · have e1:(k:Int) < (n:Int):=(by omega);have hkl:k < all.length:=(by rw [HN.out];exact hlt);obtain ⟨rb,ro,rcap,hrv,hcells⟩:=strs_at (HA2.out.below hb2) (by omega);rw [HN.out] at hrv;injection hrv with hrv1 hrv2 hrv3;subst hrv1;clear hrv2 hrv3;have gk:=hcells k hkl;have HTS:=Lib.hid (deadB_take all live hkl);obtain ⟨q,hq⟩:∃q,all[k]=q:=⟨_,rfl⟩;rw [hq] at gk HTS;have hread:=Lib.hid (HR2.out.below hb2).reads;have hsz:=hb.size;have hsz2:=hb2.size;clear hcells hq hkl
    go_wp2_with fail;refine (hasC19 _ live q wr hread.out (by omega)).mono ?_;rintro e w4 ⟨rfl,hw⟩;rw [hw];clear hw w4;by_cases hin:inL live q=true
    · have HN2:=Lib.hid (show deadB (all.take (k+1)) live=gl by rw [HTS.out,if_pos hin,List.append_nil,HTH.out]);rw [hin]
      go_wp2_with fail
      go_roundw
      case rel=>exact ⟨k+1,g,_,c,gl,by omega,by go_num,rfl,HGL,HOW,Lib.hid HN2.out.symm,by omega,hb,hb2⟩
      case measure=>simp [intOf];omega
    · have hin2:inL live q=false:=(by cases hx:inL live q;rfl;exact absurd hx hin);have HN2:=Lib.hid (show deadB (all.take (k+1)) live=gl ++ [q] by rw [HTS.out,if_neg hin,HTH.out]);rw [hin2];have hown2:=HOW.out;have HO2:=Lib.hid hown2;clear hin hin2
      go_wp2_with (at_builtin;go_loud (refine wpList_append_own _ rfl _ _ 27 rfl w2.heap.size 9 i0 (.string ⟨#[]⟩) 1 16 Tryz.underlying27 hi hz0 hz1 hz2 rfl (by decide) _ _ _ rfl (hown2.alloc _) ⟨wr.heap.size,0,none⟩ 1 1 [.string q] rfl rfl (cell_one_new _ _ _) (by simp [Value.oneCell']) (by unfold maxLen;omega) (by omega) (by simp;omega) ?_;intro v' w8 hown8 hgrow hnil;have HN8:=Lib.hid hown8;have HG8:=Lib.hid hgrow;clear hown8 hgrow hnil))
      have hba:Below wr.heap.size wr (wr.alloc (.cells #[.string q] 9)):=(Below.refl _ wr).alloc (Nat.le_refl _) _;have hB8:=(hb.trans (hba.mono hb.size)).grown HG8.out (by have:=hba.size;omega) (fun g e=>Nat.le_trans B2.size (HO2.out.lt g e).1);have hB9:=(hb2.trans (hba.mono hb2.size)).grown HG8.out (by have:=hba.size;have:=hb2.size;omega) (fun g e=>(HO2.out.lt g e).1);obtain ⟨a8,c8,rfl⟩:=Tab.own_len HN8.out;clear hown2;have HL2:=Lib.hid (show (gl ++ [q]).length=g+1 by rw [List.length_append,HGL.out];rfl)
      go_roundw
      case rel=>exact ⟨k+1,g+1,a8,c8,gl ++ [q],by omega,by go_num,rfl,HL2,Lib.hid (by rw [List.map_append];exact HN8.out),Lib.hid HN2.out.symm,by omega,hB8,hB9⟩
      case measure=>simp [intOf];omega
  · obtain rfl:k=n:=(by omega);have HT:=Lib.hid (show gl=deadB all live by have h:=HTH.out;rwa [List.take_of_length_le (by rw [HN.out];exact Nat.le_refl _)] at h)
    go_wp2_with fail
    go_ret;refine ⟨all,live,⟨_,rfl,?_,hb⟩,HRI.out,HAL.out,HLI.out⟩;have h:=own_down HOW.out B2.size;rw [←HT.out,HGL.out];exact h
end Go.Proofs.YtmmmghpimdfleaaGreatDoor.DSt
