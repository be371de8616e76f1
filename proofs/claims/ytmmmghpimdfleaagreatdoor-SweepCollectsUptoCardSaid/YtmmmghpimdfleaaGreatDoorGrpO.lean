/-
  store.New, fresh, View.Has, View.Get, Len, MK, Fork.
  store.New, View.Has, View.Get, Len, MK, Store.Fork.
-/
import Derived.Test.YtmmmghpimdfleaaGreatDoorTk
import Derived.Test.YtmmmghpimdfleaaGreatDoorGrpN
set_option linter.unusedVariables false
set_option maxHeartbeats 4000000
set_option linter.unusedSimpArgs false
namespace Go.Proofs.YtmmmghpimdfleaaGreatDoor
namespace St
open Go.RowKit Mem Tr
open Go.Proofs.YtmmmghpimdfleaaGreatDoor.Own
/-- A record in a box of its own. -/
structure RB(w:World)(b:Nat)(r:Rec)(kv rv:Value):Prop where
 bx:Bx w b (r.cells kv rv).toArray 31
 hl:r.hash.length=32
section
variable {w : World} {b : Nat} {r : Rec} {kv rv : Value}
theorem RB.below{w':World}(h:RB w b r kv rv)(hb:Below w.heap.size w w'):RB w' b r kv rv:=⟨h.bx.below hb,h.hl⟩
theorem RB.kp{w':World}{M:Nat->Prop}(h:RB w b r kv rv)(hk:Kp M w w')(hn:¬M b):RB w' b r kv rv:=⟨h.bx.kp hk hn,h.hl⟩
theorem RB.c0(h:RB w b r kv rv):w.cell? ⟨b,0,none⟩=some (.string r.path):=h.bx.cell 0
theorem RB.c1(h:RB w b r kv rv):w.cell? ⟨b,1,none⟩=some (.int .i64 r.tree.kind):=h.bx.cell 1
theorem RB.c2(h:RB w b r kv rv):w.cell? ⟨b,2,none⟩=some (.bool r.tree.exec):=h.bx.cell 2
theorem RB.c3(h:RB w b r kv rv):w.cell? ⟨b,3,none⟩=some (.string r.tree.text):=h.bx.cell 3
theorem RB.c4(h:RB w b r kv rv):w.cell? ⟨b,4,none⟩=some kv:=h.bx.cell 4
theorem RB.c5(h:RB w b r kv rv):w.cell? ⟨b,5,none⟩=some rv:=h.bx.cell 5
theorem RB.G8(h:RB w b r kv rv):w.cell? ⟨b,38,none⟩=some (.int .i64 r.size):=by
 rw[h.bx.cell];have:(r.cells kv rv).toArray[38]? = ((Lib.byteCells r.hash ++ [Value.int .i64 r.size]))[32]?:=by
  unfold Rec.cells;rw[List.getElem?_toArray,List.getElem?_append_right (by simp)];rfl
 rw[this,List.getElem?_append_right (by rw[Lib.byteCells_length,h.hl];omega),Lib.byteCells_length,h.hl];rfl
theorem RB.hash(h:RB w b r kv rv):w.rangeAt b 6 (Lib.byteCells r.hash):=fun j u hj=>by
 rw[h.bx.cell];unfold Rec.cells;rw[List.getElem?_toArray,List.getElem?_append_right (by simp),List.getElem?_append_left (by have:=(List.getElem?_eq_some_iff.1 hj).1;simp;simpa using this)]
 simpa using hj
theorem RB.range(h:RB w b r kv rv):w.rangeAt b 0 (r.cells kv rv):=by have:=h.bx.range;simpa using this
theorem RB.len(h:RB w b r kv rv):(r.cells kv rv).length=39:=by simp[Rec.cells,Lib.byteCells,h.hl]
theorem RB.zdo(h:RB w b r kv rv)(kv':Value):RB (w.setCell ⟨b,4,none⟩ kv') b r kv' rv:=by
 refine⟨?_,h.hl⟩;have:=h.bx.set 4 kv';unfold Rec.cells at *
 simpa using this
theorem RB.set1(h:RB w b r kv rv):RB (w.setCell ⟨b,1,none⟩ (.int .i64 r.tree.kind)) b r kv rv:=by
 refine⟨?_,h.hl⟩;have:=h.bx.set 1 (.int .i64 r.tree.kind);unfold Rec.cells at *
 simpa using this
theorem RB.set2(h:RB w b r kv rv):RB (w.setCell ⟨b,2,none⟩ (.bool r.tree.exec)) b r kv rv:=by
 refine⟨?_,h.hl⟩;have:=h.bx.set 2 (.bool r.tree.exec);unfold Rec.cells at *
 simpa using this
theorem RB.zdp(h:RB w b r kv rv):RB (w.setCell ⟨b,3,none⟩ (.string r.tree.text)) b r kv rv:=by
 refine⟨?_,h.hl⟩;have:=h.bx.set 3 (.string r.tree.text);unfold Rec.cells at *
 simpa using this
theorem RB.zaV(h:RB w b r kv rv)(rv':Value):RB (w.setCell ⟨b,5,none⟩ rv') b r kv rv':=by
 refine⟨?_,h.hl⟩;have:=h.bx.set 5 rv';unfold Rec.cells at *
 simpa using this
end
theorem cells_one{r:Rec}{kv rv:Value}(h1:kv.oneCell'=true)(h2:rv.oneCell'=true):∀v∈r.cells kv rv,v.oneCell'=true:=by
 intro v hv;simp only[Rec.cells,List.mem_append,List.mem_cons,Lib.byteCells,List.mem_map,List.not_mem_nil,or_false]at hv;rcases hv with(rfl|rfl|rfl|rfl|rfl|rfl)|(⟨x,_,rfl⟩|rfl)<;>first|rfl|assumption
set_option maxRecDepth 20000 in
theorem Fz(S:Nat->Prop)(r:Rec)(cs:List Value)(w:World)(h:aT S w cs r)(hb:r.bulk<=4194304) :
 Calls Tryz.prog 73 #[.agg cs.toArray] w fun e w'=>∃cs',e = .returned (.agg cs'.toArray)/\aT (w.heap.size<=·) w' cs' r/\Below w.heap.size w w':=by
 have hcl:=h.length;obtain⟨kv,rv,rfl,hh,hk,hr⟩:=h;have HK:=yH hk;have HR:=yH hr;obtain⟨ao,cap,rfl,_,_,_⟩:=hk;obtain⟨dL,cap2,rfl,_,_,_⟩:=hr;obtain⟨cs,hcs⟩:∃cs,r.cells (.slice ao r.tree.kids.len cap) (.slice dL r.refs.length cap2)=cs:=⟨_,rfl⟩;rw[hcs]at hcl ⊢;have wG:=yH hcs;have q1:cs[1]'(by omega) = .int .i64 r.tree.kind:=(by subst hcs;rfl);have q2:cs[2]'(by omega) = .bool r.tree.exec:=(by subst hcs;rfl);have q3:cs[3]'(by omega) = .string r.tree.text:=(by subst hcs;rfl);have q4:cs[4]'(by omega) = .slice ao r.tree.kids.len cap:=(by subst hcs;rfl);clear hcs
 go_enter Tryz.func73,Tryz.ntmps73
 go_wp2_with fail;refine ae fun w1 hw1=>?_
 obtain⟨b1,x1,y1⟩:=aQ hw1;clear hw1;have X1:=yH (show RB w1 w.heap.size r (.slice ao r.tree.kids.len cap) (.slice dL r.refs.length cap2)from⟨by rw[wG.out];exact x1,hh⟩);have Y1:=yH (show Bx w1 (w.heap.size+1) Ins.ah.cells 31 from y1);clear x1 y1 q1 q2 q3 q4;have hbt:r.tree.bulk<=4194304:=(by unfold Rec.bulk at hb;omega);refine(Copy.TT S r.tree (.slice ao r.tree.kids.len cap) w1 (HK.out.below b1) hbt).mono ?_;rintro e w2 ⟨kv',rfl,hk2,b2⟩;have HK2:=yH hk2;obtain⟨ve,cap3,rfl,_,_,_⟩:=hk2;have X2:=yH (X1.out.below b2);have Y2:=yH (Y1.out.below b2);have g1:=X2.out.c1;have g2:=X2.out.c2;have g3:=X2.out.c3;have g4:=X2.out.c4;have g5:=X2.out.c5;have f1:=X2.out.bx.frozen 1;have f2:=X2.out.bx.frozen 2;have f3:=X2.out.bx.frozen 3;have f4:=X2.out.bx.frozen 4;unfold Sum.iw
 go_wp2_with fail;refine ae fun w3 hw3=>?_
 have X3:=yH (show RB w3 w.heap.size r (.slice ve r.tree.kids.len cap3) (.slice dL r.refs.length cap2)from by rw[←hw3];exact X2.out.set1.set2.zdp.zdo _);have k3:Kp (fun b=>b=w.heap.size) w2 w3:=(by rw[←hw3];exact((((Kp.refl (fun b=>b=w.heap.size) w2).setCell ⟨w.heap.size,1,none⟩ _ (fun _=>rfl)).setCell ⟨w.heap.size,2,none⟩ _ (fun _=>rfl)).setCell ⟨w.heap.size,3,none⟩ _ (fun _=>rfl)).setCell ⟨w.heap.size,4,none⟩ _ (fun _=>rfl));clear hw3 g1 g2 g3 g4 g5 f1 f2 f3 f4;have Y3:=yH (Y2.out.kp k3 (by omega));have b12:Below w.heap.size w w2:=b1.trans (b2.mono b1.size);have b13:Below w.heap.size w w3:=b12.trans (k3.below b12.size (fun i hi e=>by omega));have s1:=b1.size;have s2:=b2.size;have s3:=k3.size;have lt1:=Y1.out.lt;have hr3:Strs (fun k=>k<w.heap.size) w3 (.slice dL r.refs.length cap2) r.refs:=((HR.out.sub (S':=fun k=>k<w.heap.size) (fun k hk _=>hk)).below b12).ag (Ag.bg k3 (fun k _ hk e=>by omega));have hrl:r.refs.length*16<=140737488355328:=(by have:=dI r.refs;unfold Rec.bulk at hb;omega);refine(wY _ _ r.refs w3 hr3 hrl).mono ?_;rintro e w4 ⟨rv',rfl,hown4,b4⟩;obtain⟨xJ,cap5,rfl⟩:=Tab.aO hown4;have HS4:=yH (Strs.bU hown4);have X4:=yH (X3.out.below b4);have Y4:=yH (Y3.out.below b4);have g5:=X4.out.c5;have f5:=X4.out.bx.frozen 5;have s4:=b4.size;clear hown4 hr3;obtain⟨yN,wO⟩:∃cs,r.cells (.slice ve r.tree.kids.len cap3) (.slice xJ r.refs.length cap5)=cs:=⟨_,rfl⟩;have X5:=yH (X4.out.zaV (.slice xJ r.refs.length cap5));have QL:yN.length=39:=(by rw[←wO];exact X5.out.len);have Yo:=X5.out.range;rw[wO]at Yo;have HC5:=yH wO;have Y5:=yH (Y4.out.aH (p:=⟨w.heap.size,5,none⟩) (.slice xJ r.refs.length cap5) (by show w.heap.size+1≠w.heap.size;omega));have h1o:∀v∈yN,v.oneCell'=true:=(by rw[←wO];exact cells_one rfl rfl);clear wO
 go_wp2_with (first
  | (refine wpList_load_mid rfl 31 _ (by rfl) w.heap.size 0 (by rfl) yN _ Yo Tryz.underlying31 rfl (by rw[QL];kernel_rfl) ?_)
  | (refine wpList_store_mid (by rfl) 31 _ _ (by rfl) (w.heap.size+1) 0 yN.toArray (by rfl) (by rfl) ?h4 ?h5 ?h6 ?_;rotate_right;refine Mem.named ?_;intro W hW))
 case h4=>exact Y5.out.there _ (by rw[show yN.toArray.size=39 by simpa using QL];rfl)
 case h5=>rw[List.size_toArray,QL];kernel_rfl
 case h6=>exact all_oneCell_toArray h1o
 have k45:Kp (fun b=>b=w.heap.size) w4 (w4.setCell ⟨w.heap.size,5,none⟩ (.slice xJ r.refs.length cap5)):=(Kp.refl (fun b=>b=w.heap.size) w4).setCell _ _ (fun _=>rfl);have hW2:(w4.setCell ⟨w.heap.size,5,none⟩ (.slice xJ r.refs.length cap5)).setCells (w.heap.size+1) 0 yN=W:=hW;have hlv:=Tab.uf Y5.out rfl yN QL;rw[hW2]at hlv;have QM:Kp (fun b=>b=w.heap.size∨b=w.heap.size+1) w4 W:=(by rw[←hW2];exact aW (fun _=>.inr rfl) _ _ (k45.mono (fun i _ e=>.inl e)));have bW:Below w.heap.size w W:=(b13.trans (b4.mono b13.size)).trans (QM.below (by omega) (fun i hi e=>by rcases e with e|e<;>omega));refine bodyPost_ret (v:=.agg yN.toArray) (ai Tryz.results73 rfl hlv) rfl ⟨yN,rfl,⟨_,_,HC5.out.symm,hh,?_,?_⟩,bW⟩
 ·have h3:=(HK2.out.sub (S':=fun b=>b≠w.heap.size/\b≠w.heap.size+1/\w.heap.size<=b) (fun q _ (hq:w1.heap.size<=q)=>by have:=Y1.out.lt;exact⟨by omega,by omega,by omega⟩));have h4:=(h3.ag (Ag.bg k3 (fun q _ hq e=>hq.1 e))).below b4;exact(h4.ag (Ag.bg QM (fun q _ hq e=>by rcases e with e|e;exact hq.1 e;exact hq.2.1 e))).sub (fun q _ hq=>hq.2.2)
 ·exact(HS4.out.ag (Ag.bg QM (fun q _ (hq:w3.heap.size<=q) e=>by rcases e with e|e<;>omega))).sub (fun q _ (hq:w3.heap.size<=q)=>by show w.heap.size<=q;omega)
end St

namespace St
open Go.RowKit Mem Tr
open Go.Proofs.YtmmmghpimdfleaaGreatDoor.Own
theorem Ie{M F F':Nat->Prop}{w:World}{t:Nat}{rs:List Rec}(h:Tab.At M F w t rs)(hs:∀b,F b->F' b)(hd:∀b,F' b->¬M b)(hl:∀b,F' b->b<w.heap.size):Tab.At M F' w t rs:=by
 obtain⟨⟨kv,vv,xs,b0,o1,o2,hv,m1,m2⟩,mt,uQ,lt,uC,rise⟩:=h;exact⟨⟨kv,vv,xs,b0,o1,o2,hv.sub (fun k _ hk=>hs k hk),m1,m2⟩,mt,fun b hm hf=>hd b hf hm,lt,hl,rise⟩
/-- A store: M: the blocks that it may write; F: those that it reads and no one writes. -/
structure Is(M F:Nat->Prop)(w:World)(s:Nat)(rs:List Rec):Prop where
 tab:∃t,Bx w s #[.pointer (some ⟨t,0,none⟩)] 46/\Tab.At M F w t rs
 own:F s
theorem Is.kp{M F N:Nat->Prop}{w w':World}{s:Nat}{rs:List Rec}(h:Is M F w s rs)(hk:Kp N w w')(hM:∀b,M b->¬N b)(hF:∀b,F b->¬N b):Is M F w' s rs:=by
 obtain⟨⟨t,b0,ha⟩,ho⟩:=h;exact⟨⟨t,b0.kp hk (hF s ho),ha.kp hk hM hF⟩,ho⟩
theorem Is.below{M F:Nat->Prop}{w w':World}{s:Nat}{rs:List Rec}(h:Is M F w s rs)(hb:Below w.heap.size w w'):Is M F w' s rs :=
 h.kp (Kp.of_below (M:=fun _=>False) hb) (fun _ _ h=>h) (fun _ _ h=>h)
theorem Is.lt{M F:Nat->Prop}{w:World}{s:Nat}{rs:List Rec}(h:Is M F w s rs):∀b,M b∨F b->b<w.heap.size:=by
 obtain⟨⟨t,b0,ha⟩,ho⟩:=h;exact fun b hb=>hb.elim (ha.lt b) (ha.uC b)
theorem Is.uQ{M F:Nat->Prop}{w:World}{s:Nat}{rs:List Rec}(h:Is M F w s rs):∀b,M b->¬F b:=by
 obtain⟨⟨t,b0,ha⟩,ho⟩:=h;exact ha.uQ
theorem RP(w:World):Calls Tryz.prog 50 #[] w fun e w'=>∃M F s,e = .returned (.pointer (some ⟨s,0,none⟩))/\Is M F w' s []/\(∀b,M b∨F b->w.heap.size<=b)/\Below w.heap.size w w':=by
 have hC:=Tab.RP w
 go_enter Tryz.func50,Tryz.ntmps50
 go_wp2_with fail;refine hC.mono ?_;rintro e w1 ⟨rfl,ha,hb,hz⟩
 go_wp2_with fail
 go_ret;have hB:Below w1.heap.size w1 (w1.alloc (.cells #[.pointer (some ⟨w.heap.size,0,none⟩)] 46)):=(Below.refl _ w1).alloc (Nat.le_refl _) _;refine⟨fun b=>b=w.heap.size,fun b=>b=w1.heap.size,w1.heap.size,by rw[hz];rfl,⟨⟨w.heap.size,Bx.new w1 _ _,Ie (ha.below hB) (fun b h=>h.elim) ?_ ?_⟩,rfl⟩,?_,hb.trans (hB.mono hb.size)⟩
 ·rintro b rfl h;omega
 ·rintro b rfl;simp
 ·rintro b (rfl|rfl)<;>omega
theorem vT(M F:Nat->Prop)(s:Nat)(rs:List Rec)(p:ByteArray)(w:World)(h:Is M F w s rs)(hn:rs.length<=1073741824) :
 Calls Tryz.prog 22 #[.pointer (some ⟨s,0,none⟩),.string p] w fun e w'=>e = .returned (.bool (aJ.has rs p))/\Below w.heap.size w w':=by
 obtain⟨⟨t,b0,ha⟩,ho⟩:=h;have hC:=Tab.CY M F t rs p w ha (by omega);have c0:w.cell? ⟨s,0,none⟩=some (.pointer (some ⟨t,0,none⟩)):=b0.cell 0;obtain⟨B,hB⟩:∃B,aJ.has rs p=B:=⟨_,rfl⟩;rw[hB];have HB:=yH hB;clear ha b0 ho hB
 go_enter Tryz.func22,Tryz.ntmps22
 go_wp2_with fail;refine hC.mono ?_;rintro e w1 ⟨b1,hm⟩;obtain⟨cs,hl,hoc,rfl⟩:∃cs:List Value,cs.length=39/\(∀v∈cs,v.oneCell'=true)/\e = .returned (.tuple #[.agg cs.toArray,.bool B]):=by
  have BU:=HB.out;unfold aJ.has at BU;cases hg:Sp.get Rec.path rs p with
  | none =>
   rw[hg]at hm BU;subst BU;exact⟨_,rfl,by intro v hv;simp only[List.mem_append,List.mem_cons,List.not_mem_nil,or_false,List.mem_replicate]at hv;rcases hv with(rfl|rfl|rfl|rfl|rfl|rfl)|(⟨_,rfl⟩|rfl)<;>rfl,hm⟩
  | some r =>
   rw[hg]at hm BU;subst BU;obtain⟨cs,rfl,hrec⟩:=hm;exact⟨cs,hrec.length,Tab.dX hrec,rfl⟩
 clear hm HB
 go_wp2_with (refine wpList_store_mid (by rfl) 31 _ _ (by rfl) w1.heap.size 0 cs.toArray (by rfl) (by rfl) ?h4 ?h5 ?h6 ?_;rotate_right;refine Mem.named ?_;intro W hW)
 case h4=>exact(Bx.new w1 Ins.ah.cells 31).there _ (by rw[show cs.toArray.size=39 by simpa using hl];rfl)
 case h5=>rw[List.size_toArray,hl];kernel_rfl
 case h6=>exact all_oneCell_toArray hoc
 have bW:Below w.heap.size w W:=(by rw[←hW];exact Tab.below_setCells b1.size _ _ (b1.alloc b1.size _) (Nat.le_refl _))
 go_ret;exact⟨rfl,bW⟩
theorem aX{w2 W:World}{Z:Array Value}{T:TypeId}{cs:List Value}(hW:(w2.alloc (.cells Z T)).setCells w2.heap.size 0 cs=W):Below w2.heap.size w2 W:=by
 rw[←hW];exact Tab.below_setCells (Nat.le_refl _) _ _ ((Below.refl _ w2).alloc (Nat.le_refl _) _) (Nat.le_refl _)
theorem aZ{w2 W:World}{Z:Array Value}{T:TypeId}{cs:List Value}(hW:(w2.alloc (.cells Z T)).setCells w2.heap.size 0 cs=W)(hz:Z.size=cs.length):W.rangeAt w2.heap.size 0 cs:=by
 rw[←hW];exact World.rangeAt_setCells_same _ _ _ _ ((Bx.new w2 Z T).there _ hz)
/-- What View.Get gives. -/
def Nj(w:World)(rs:List Rec)(p:ByteArray)(e:Ending)(w':World):Prop :=
 Below w.heap.size w w'/\match Sp.get Rec.path rs p with
 | none=>e = .returned (.tuple #[Ins.ah,.int .i64 3])
 | some r=>∃cs,e = .returned (.tuple #[.agg cs.toArray,.int .i64 0])/\aT (fun b=>w.heap.size<=b) w' cs r
set_option maxRecDepth 20000 in
theorem CY(M F:Nat->Prop)(s:Nat)(rs:List Rec)(p:ByteArray)(w:World)(h:Is M F w s rs)(hn:rs.length<=1073741824)(hbk:∀r∈rs,r.bulk<=4194304) :
 Calls Tryz.prog 23 #[.pointer (some ⟨s,0,none⟩),.string p] w (Nj w rs p):=by
 obtain⟨⟨t,b0,ha⟩,ho⟩:=h;have hC:=fun w1 hb=>Tab.CY M F t rs p w1 (ha.below hb) (by omega)
 have c0:∀o,(w.alloc o).cell? ⟨s,0,none⟩=some (.pointer (some ⟨t,0,none⟩)):=fun o=>Lib.cell?_alloc_some o (b0.cell 0)
 have HLF:=yH ha.uC;clear ha b0 ho
 go_enter Tryz.func23,Tryz.ntmps23
 go_wp2_with fail;refine ae fun w1 hw1=>?_
 obtain⟨b1,x1⟩:=af hw1;have X1:=yH (show Bx w1 w.heap.size Ins.ah.cells 31 from x1);clear hw1 x1 c0;refine(hC w1 b1).mono ?_;rintro e w2 ⟨b2,hm⟩;clear hC;have B2:=b1.trans (b2.mono b1.size);have X2:=yH (X1.out.below b2);cases hg:Sp.get Rec.path rs p with
 | none =>
  rw[hg]at hm;obtain⟨cs,hl,hoc,hze⟩:∃cs:List Value,cs.length=39/\(∀v∈cs,v.oneCell'=true)/\Ins.ah = .agg cs.toArray :=
   ⟨_,rfl,by intro v hv;simp only[List.mem_append,List.mem_cons,List.not_mem_nil,or_false,List.mem_replicate]at hv;rcases hv with(rfl|rfl|rfl|rfl|rfl|rfl)|(⟨_,rfl⟩|rfl)<;>rfl,rfl⟩
  rw[hze]at hm;subst hm;have VY:=yH hg;have HZ:=yH hze;clear hg hze
  go_wp2_with (first
   | (refine wpList_store_mid (by rfl) 31 _ _ (by rfl) w2.heap.size 0 cs.toArray (by rfl) (by rfl) ?h4 ?h5 ?h6 ?_;rotate_right;refine Mem.named ?_;intro W hW)
   | (refine wpList_store_mid (by rfl) 31 _ _ (by rfl) w.heap.size 0 Ins.ah.cells.toList.toArray (by rfl) (by rfl) ?g4 ?g5 ?g6 ?_;rotate_right;refine Mem.named ?_;intro W2 hW2))
  case h4=>exact(Bx.new w2 Ins.ah.cells 31).there _ (by rw[show cs.toArray.size=39 by simpa using hl];rfl)
  case h5=>rw[List.size_toArray,hl];kernel_rfl
  case h6=>exact all_oneCell_toArray hoc
  rotate_left
  ·rename_i x9 CZ sO;have e9:CZ=cs.toArray:=(by have:=sO.symm.trans HZ.out;injection this);exact(X2.out.below (aX hW)).there CZ.size (by rw[e9,show cs.toArray.size=39 by simpa using hl];rfl)
  ·rename_i x9 CZ sO;have e9:CZ=cs.toArray:=(by have:=sO.symm.trans HZ.out;injection this);obtain⟨i0,hi,hz0,hz1,hz2⟩:=info_parts Ins.fO;exact⟨i0,hi,by rw[hz1,e9,List.size_toArray,hl]⟩
  ·rename_i x9 CZ sO;have e9:CZ=cs.toArray:=(by have:=sO.symm.trans HZ.out;injection this);intro i hi;rw[e9]at hi;have:CZ[i]=cs[i]'(by simpa using hi):=(by simp[e9]);rw[this];exact hoc _ (List.getElem_mem _)
  have bW:=aX hW;have hlv:=Tab.uf (X2.out.below bW) rfl Ins.ah.cells.toList rfl;have hW3:W.setCells w.heap.size 0 Ins.ah.cells.toList=W2:=hW2;have B3:Below w.heap.size w W2:=(by rw[←hW3];exact Tab.below_setCells (Nat.le_refl _) _ _ (B2.trans (bW.mono B2.size)) (Nat.le_refl _));rw[hW3]at hlv;refine bodyPost_ret (v:=.tuple #[Ins.ah,.int .i64 3]) (bT Tryz.results23 rfl hlv rfl) rfl ⟨B3,?_⟩;rw[VY.out]
 | some r =>
  rw[hg]at hm;obtain⟨cs,rfl,hrec⟩:=hm;have hl:=hrec.length;have hoc:=Tab.dX hrec;have nC:=yH hrec;have HB:=yH (hbk r (Sp.get_some hg).1);have VY:=yH hg;clear hg hrec
  go_wp2_with (first
   | (refine wpList_store_mid (by rfl) 31 _ _ (by rfl) w2.heap.size 0 cs.toArray (by rfl) (by rfl) ?m4 ?m5 ?m6 ?_;rotate_right;refine Mem.named ?_;intro W hW;have hrg:=aZ hW hl.symm)
   | (refine wpList_load_mid rfl 31 _ (by rfl) w2.heap.size 0 (by rfl) cs _ hrg Tryz.underlying31 rfl (by rw[hl];kernel_rfl) ?_))
  case m4=>exact(Bx.new w2 Ins.ah.cells 31).there _ (by rw[show cs.toArray.size=39 by simpa using hl];rfl)
  case m5=>rw[List.size_toArray,hl];kernel_rfl
  case m6=>exact all_oneCell_toArray hoc
  have bW:=aX hW;clear hrg;refine(Fz F r cs W (nC.out.below bW) HB.out).mono ?_;rintro e w4 ⟨cs',rfl,qR,b4⟩;have hl':=qR.length;have VZ:=Tab.dX qR;have Nk:=yH qR;have X4:=yH ((X2.out.below bW).below b4);clear qR
  go_wp2_with (refine wpList_store_mid (by rfl) 31 _ _ (by rfl) w.heap.size 0 cs'.toArray (by rfl) (by rfl) ?k4 ?k5 ?k6 ?_;rotate_right;refine Mem.named ?_;intro W2 hW2)
  case k4=>exact X4.out.there cs'.toArray.size (by rw[show cs'.toArray.size=39 by simpa using hl'];rfl)
  case k5=>rw[List.size_toArray,hl'];kernel_rfl
  case k6=>exact all_oneCell_toArray VZ
  have hlv:=Tab.uf X4.out rfl cs' hl';have hW3:w4.setCells w.heap.size 0 cs'=W2:=hW2;have B4:Below w.heap.size w w4:=(B2.trans (bW.mono B2.size)).trans (b4.mono (Nat.le_trans B2.size bW.size));have B5:Below w.heap.size w W2:=(by rw[←hW3];exact Tab.below_setCells (Nat.le_refl _) _ _ B4 (Nat.le_refl _));have k5:Kp (fun b=>b=w.heap.size) w4 W2:=(by rw[←hW3];exact aW (M:=fun b=>b=w.heap.size) (fun _=>rfl) _ _ (Kp.refl _ w4));rw[hW3]at hlv;have s1:=b1.size;have s2:=b2.size;have s3:=bW.size;have s0:=X1.out.lt;refine bodyPost_ret (v:=.tuple #[.agg cs'.toArray,.int .i64 0]) (bT Tryz.results23 rfl hlv rfl) rfl ⟨B5,?_⟩;rw[VY.out];exact⟨cs',rfl,(Nk.out.ag (Ag.bg k5 (fun q _ (hq:W.heap.size<=q) e=>by omega))).sub (fun q _ (hq:W.heap.size<=q)=>by show w.heap.size<=q;omega)⟩
theorem Xn(M F:Nat->Prop)(s:Nat)(rs:List Rec)(w:World)(h:Is M F w s rs) :
 Calls Tryz.prog 30 #[.pointer (some ⟨s,0,none⟩)] w fun e w'=>e = .returned (.int .i64 (rs.length:Nat))/\w'=w:=by
 obtain⟨⟨t,b0,ha⟩,ho⟩:=h;have hC:=Tab.Xn M F t rs w ha;have c0:w.cell? ⟨s,0,none⟩=some (.pointer (some ⟨t,0,none⟩)):=b0.cell 0;clear ha b0 ho
 go_enter Tryz.func30,Tryz.ntmps30
 go_wp2_with fail;refine hC.mono ?_;rintro e w1 ⟨rfl,rfl⟩
 go_wp2_with fail
 go_ret;exact⟨rfl,rfl⟩
theorem Fg(M F:Nat->Prop)(s:Nat)(rs:List Rec)(w:World)(h:Is M F w s rs)(hn:rs.length<=1073741824) :
 Calls Tryz.prog 32 #[.pointer (some ⟨s,0,none⟩)] w (iO w rs.length 1 (rs.map fun r=>.string r.path) 9):=by
 obtain⟨⟨t,b0,ha⟩,ho⟩:=h;have hC:=Tab.zbf M F t rs w ha hn;have c0:w.cell? ⟨s,0,none⟩=some (.pointer (some ⟨t,0,none⟩)):=b0.cell 0;clear ha b0 ho
 go_enter Tryz.func32,Tryz.ntmps32
 go_wp2_with fail;refine hC.mono ?_;rintro e w1 ⟨v',rfl,ho,hb⟩
 go_wp2_with fail
 go_ret;exact⟨_,rfl,ho,hb⟩
theorem NC(M F:Nat->Prop)(s:Nat)(rs:List Rec)(w:World)(h:Is M F w s rs)(hn:rs.length<=1073741824) :
 Calls Tryz.prog 26 #[.pointer (some ⟨s,0,none⟩)] w fun e w'=>∃M' F' s',e = .returned (.pointer (some ⟨s',0,none⟩))/\Is M' F' w' s' rs/\(∀b,M' b->w.heap.size<=b)/\(∀b,F' b->F b∨w.heap.size<=b)/\Below w.heap.size w w':=by
 have hlt:=h.lt;obtain⟨⟨t,b0,ha⟩,ho⟩:=h;have hC:=Tab.NC M F t rs w ha hn;have c0:w.cell? ⟨s,0,none⟩=some (.pointer (some ⟨t,0,none⟩)):=b0.cell 0;clear ha b0 ho
 go_enter Tryz.func26,Tryz.ntmps26
 go_wp2_with fail;refine hC.mono ?_;rintro e w1 ⟨t',M',rfl,ha,hge,hb⟩
 go_wp2_with fail
 go_ret;have hB:Below w1.heap.size w1 (w1.alloc (.cells #[.pointer (some ⟨t',0,none⟩)] 46)):=(Below.refl _ w1).alloc (Nat.le_refl _) _;refine⟨M',fun b=>F b∨b=w1.heap.size,w1.heap.size,rfl,⟨⟨t',Bx.new w1 _ _,Ie (ha.below hB) (fun b h=>.inl h) ?_ ?_⟩,.inr rfl⟩,hge,?_,hb.trans (hB.mono hb.size)⟩
 ·rintro b (h|rfl) hm
  ·exact ha.uQ b hm h
  ·have:=ha.lt _ hm;omega
 ·rintro b (h|rfl)
  ·have:=hlt b (.inr h);have:=hb.size;simp;omega
  ·simp
 ·rintro b (h|rfl)
  ·exact .inl h
  ·exact .inr hb.size
end St
end Go.Proofs.YtmmmghpimdfleaaGreatDoor
