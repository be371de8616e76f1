/-
  store.valid: the first thing wrong with a record by itself.
  store.Same: are two records the same?
-/
import Derived.Test.YtmmmghpimdfleaaGreatDoorTk
import Derived.Test.YtmmmghpimdfleaaGreatDoorGrpO
import Derived.Stop.BytesEq
set_option linter.unusedVariables false
set_option maxHeartbeats 4000000
set_option linter.unusedSimpArgs false
namespace Go.Proofs.YtmmmghpimdfleaaGreatDoor
namespace St
open Go.RowKit Mem Tr
open Go.Proofs.YtmmmghpimdfleaaGreatDoor.Own
theorem Ot(a b:List UInt8)(ha:a.length=32)(hb:b.length=32)(w:World) :
 (Op.equalIn 10000 29 (.agg (Lib.byteCells a).toArray) (.agg (Lib.byteCells b).toArray)).run Tryz.prog w = .ok (a==b) w :=
 run_equalIn_bytes w 9998 29 5 32 Tryz.underlying29 Tryz.underlying5 (fun _=>by kernel_rfl) a b ha hb
/-- A record handed over by value: its fields. -/
theorem fJ{r:Rec}{kv rv:Value}{cs:List Value}(hcs:r.cells kv rv=cs)(hl:cs.length=39)(hh:r.hash.length=32) :
 cs[0]'(by omega) = .string r.path/\cs[1]'(by omega) = .int .i64 r.tree.kind/\cs[2]'(by omega) = .bool r.tree.exec/\cs[3]'(by omega) = .string r.tree.text/\cs[4]'(by omega)=kv/\cs[5]'(by omega)=rv:=by
 subst hcs;exact⟨rfl,rfl,rfl,rfl,rfl,rfl⟩
theorem sJ(rc st:Nat->BitVec 32)(T:Tree):∃(D:List UInt8) (sz:Int),Sum.E9 rc st T = .tuple #[.agg (Lib.byteCells D).toArray,.int .i64 sz,.int .i64 (Sum.codeOf T)]/\D.length=32/\(Sum.codeOf T=0->D=Sum.nX rc st T/\sz=((Sum.bytesOf T).length:Nat)):=by
 by_cases h:Sum.codeOf T=0
 ·exact⟨_,_,by unfold Sum.E9;rw[if_pos h,h],Sum.rf _ _ _,fun _=>⟨rfl,rfl⟩⟩
 ·exact⟨_,_,by unfold Sum.E9;rw[if_neg h],rfl,fun h2=>absurd h2 h⟩
theorem oI(l:List UInt8):∀v∈Lib.byteCells l,v.oneCell'=true:=fun v hv=>by
 obtain⟨j,_,rfl⟩:=List.mem_map.1 hv;rfl
set_option maxRecDepth 20000 in
theorem vX(rc st:Nat->BitVec 32)(S:Nat->Prop)(r:Rec)(cs:List Value)(w:World)(hg:Sum.Gl rc st w)(h:aT S w cs r)(hS:∀b,S b->b<w.heap.size)(hb:r.bulk<=4194304) :
 Calls Tryz.prog 77 #[.agg cs.toArray] w fun e w'=>e = .returned (.int .i64 (aJ.bP rc st r))/\Below w.heap.size w w':=by
 have hcl:=h.length;obtain⟨kv,rv,hcs,hh,hk,hr⟩:=h;have HK:=yH hk;have HR:=yH hr;have wG:=yH hcs.symm;obtain⟨ao,cap,rfl,_,_,_⟩:=hk;obtain⟨dL,cap2,rfl,_,_,_⟩:=hr;obtain⟨q0,q1,q2,q3,q4,q5⟩:=fJ hcs.symm hcl hh;obtain⟨pa,pb,hpe⟩:=Pre.jv r.path;have hP:=fun w1=>Pre.vV r.path w1
 rw[hpe]at hP;clear hcs hpe;by_cases h1:Pre.aF r.path=0
 case neg =>
  have hE:aJ.bP rc st r=Pre.aF r.path:=(by unfold aJ.bP;rw[if_neg h1]);rw[hE];obtain⟨z,hz⟩:∃z,Pre.aF r.path=z:=⟨_,rfl⟩;rw[hz]at h1 hP ⊢;have t1:(z != 0)=true:=(by simpa using h1);clear hE hz h1
  go_enter Tryz.func77,Tryz.ntmps77
  go_wp2_with fail;refine ae fun w1 hw1=>?_
  obtain⟨b1,x1⟩:=af hw1;clear hw1 q0 q1 q2 q3 q4 q5 x1;refine(hP w1).mono ?_;rintro e w2 ⟨rfl,b2⟩
  go_wp2_with fail
  go_ret;exact⟨rfl,b1.trans (b2.mono b1.size)⟩
 rw[h1]at hP;have hbt:r.tree.bulk<=4194304:=(by unfold Rec.bulk at hb;omega)
 go_enter Tryz.func77,Tryz.ntmps77
 go_wp2_with fail;refine ae fun w1 hw1=>?_
 obtain⟨b1,x1⟩:=af hw1;have X1:=yH (show RB w1 w.heap.size r (.slice ao r.tree.kids.len cap) (.slice dL r.refs.length cap2)from⟨by rw[wG.out];exact x1,hh⟩);clear hw1 q0 q1 q2 q3 q4 q5 x1;refine(hP w1).mono ?_;rintro e w2 ⟨rfl,b2⟩;clear hP;have X2:=yH (X1.out.below b2);have B2:=b1.trans (b2.mono b1.size);have g1:=X2.out.c1;have g2:=X2.out.c2;have g3:=X2.out.c3;have g4:=X2.out.c4
 go_wp2_with fail;refine(Sum.I5 rc st S r.tree _ w2 (hg.below B2) (HK.out.below B2) (fun i hi=>Nat.lt_of_lt_of_le (hS i hi) B2.size) hbt).mono ?_;rintro e w3 ⟨rfl,b3⟩;obtain⟨D,sz,hv,hDl,hD0⟩:=sJ rc st r.tree;rw[hv];have HE:Hid (aJ.bP rc st r=if Sum.codeOf r.tree=0 then(if r.size=sz then(if r.hash=D then Pre.bZ r.refs else 131)else 152)else Sum.codeOf r.tree):=yH (by
  unfold aJ.bP;rw[if_pos h1];by_cases h:Sum.codeOf r.tree=0
  ·rw[if_pos h,if_pos h,(hD0 h).1,(hD0 h).2]
  ·rw[if_neg h,if_neg h])
 obtain⟨c,hc⟩:∃c,Sum.codeOf r.tree=c:=⟨_,rfl⟩;rw[hc]at HE ⊢;have B3:=B2.trans (b3.mono B2.size);have X3:=yH (X2.out.below b3);have HQ:=yH (fun w=>Ot r.hash D hh hDl w);obtain⟨DC,CP⟩:∃DC,Lib.byteCells D=DC:=⟨_,rfl⟩;have fK:DC.length=32:=(by rw[←CP,Lib.byteCells_length,hDl]);have uH:∀v∈DC,v.oneCell'=true:=(by rw[←CP];exact oI D);rw[CP]at HQ ⊢;obtain⟨RC,yJ⟩:∃RC,Lib.byteCells r.hash=RC:=⟨_,rfl⟩;rw[yJ]at HQ;have MI:RC.length=32:=(by rw[←yJ,Lib.byteCells_length,hh]);have MJ:=yH yJ;have VL:=yH CP;clear hc hv hD0 h1 CP yJ g1 g2 g3 g4 hDl;by_cases h2:c=0
 case neg =>
  have t2:(c != 0)=true:=(by simpa using h2)
  go_wp2_with (refine wpList_store_mid (by rfl) 29 _ _ (by rfl) w3.heap.size 0 DC.toArray (by rfl) (by rfl) ?h4 ?h5 ?h6 ?_;rotate_right;refine Mem.named ?_;intro W hW)
  case h4=>exact(Bx.new w3 _ _).there _ (by rw[show DC.toArray.size=32 by simpa using fK];rfl)
  case h5=>rw[List.size_toArray,fK];kernel_rfl
  case h6=>exact all_oneCell_toArray uH
  have B4:=B3.trans ((aX hW).mono B3.size)
  go_ret;exact⟨by rw[HE.out,if_neg h2];rfl,B4⟩
 subst h2;have HE2:Hid (aJ.bP rc st r=if r.size=sz then(if r.hash=D then Pre.bZ r.refs else 131)else 152):=yH (by rw[HE.out,if_pos rfl]);clear HE;by_cases h3:r.size=sz
 case neg =>
  have t3:(r.size != sz)=true:=(by simpa using h3)
  go_wp2_with (refine wpList_store_mid (by rfl) 29 _ _ (by rfl) w3.heap.size 0 DC.toArray (by rfl) (by rfl) ?a4 ?a5 ?a6 ?_;rotate_right;refine Mem.named ?_;intro W hW;have g38:=(X3.out.below (aX hW)).G8)
  case a4=>exact(Bx.new w3 _ _).there _ (by rw[show DC.toArray.size=32 by simpa using fK];rfl)
  case a5=>rw[List.size_toArray,fK];kernel_rfl
  case a6=>exact all_oneCell_toArray uH
  have B4:=B3.trans ((aX hW).mono B3.size)
  go_ret;exact⟨by rw[HE2.out,if_neg h3];rfl,B4⟩
 have t3:(r.size != sz)=false:=(by simpa using h3);have hu:=Tryz.underlying29;by_cases h4:r.hash=D
 case neg =>
  have hq:∀w,(Op.equalIn 10000 29 (.agg RC.toArray) (.agg DC.toArray)).run Tryz.prog w = .ok false w:=fun w=>by rw[HQ.out w];congr 1;simpa using h4
  go_wp2_with (first
   | (refine wpList_store_mid (by rfl) 29 _ _ (by rfl) w3.heap.size 0 DC.toArray (by rfl) (by rfl) ?b4 ?b5 ?b6 ?_;rotate_right;refine Mem.named ?_;intro W hW;have g38:=(X3.out.below (aX hW)).G8;have r1:=(X3.out.below (aX hW)).hash;rw[MJ.out]at r1;have r2:=aZ hW (fK.symm))
   | (refine wpList_load_mid rfl 29 _ (by rfl) w.heap.size 6 (by rfl) RC _ r1 hu rfl (by rw[MI];kernel_rfl) ?_)
   | (refine wpList_load_mid rfl 29 _ (by rfl) w3.heap.size 0 (by rfl) DC _ r2 hu rfl (by rw[fK];kernel_rfl) ?_))
  case b4=>exact(Bx.new w3 _ _).there _ (by rw[show DC.toArray.size=32 by simpa using fK];rfl)
  case b5=>rw[List.size_toArray,fK];kernel_rfl
  case b6=>exact all_oneCell_toArray uH
  have B4:=B3.trans ((aX hW).mono B3.size)
  go_ret;exact⟨by rw[HE2.out,if_pos h3,if_neg h4];rfl,B4⟩
 have hq:∀w,(Op.equalIn 10000 29 (.agg RC.toArray) (.agg DC.toArray)).run Tryz.prog w = .ok true w:=fun w=>by rw[HQ.out w];congr 1;simpa using h4
 go_wp2_with (first
  | (refine wpList_store_mid (by rfl) 29 _ _ (by rfl) w3.heap.size 0 DC.toArray (by rfl) (by rfl) ?c4 ?c5 ?c6 ?_;rotate_right;refine Mem.named ?_;intro W hW;have g38:=(X3.out.below (aX hW)).G8;have g5:=(X3.out.below (aX hW)).c5;have r1:=(X3.out.below (aX hW)).hash;rw[MJ.out]at r1;have r2:=aZ hW (fK.symm))
  | (refine wpList_load_mid rfl 29 _ (by rfl) w.heap.size 6 (by rfl) RC _ r1 hu rfl (by rw[MI];kernel_rfl) ?_)
  | (refine wpList_load_mid rfl 29 _ (by rfl) w3.heap.size 0 (by rfl) DC _ r2 hu rfl (by rw[fK];kernel_rfl) ?_))
 case c4=>exact(Bx.new w3 _ _).there _ (by rw[show DC.toArray.size=32 by simpa using fK];rfl)
 case c5=>rw[List.size_toArray,fK];kernel_rfl
 case c6=>exact all_oneCell_toArray uH
 have B4:=B3.trans ((aX hW).mono B3.size);refine(Pre.yD _ r.refs W (HR.out.below B4).reads).mono ?_;rintro e w5 ⟨rfl,b5⟩
 go_wp2_with fail
 go_ret;exact⟨by rw[HE2.out,if_pos h3,if_pos h4];rfl,B4.trans (b5.mono B4.size)⟩
end St

namespace St
open Go.RowKit Mem Tr
open Go.Proofs.YtmmmghpimdfleaaGreatDoor.Own
/-- are they the same? -/
def Jd(a b:Rec):Bool:=decide (a=b)
theorem rec_eq{a b:Rec}:a=b↔a.path=b.path/\a.hash=b.hash/\a.size=b.size/\a.tree=b.tree/\a.refs=b.refs:=by
 cases a;cases b
 constructor
 ·intro h;injection h with h1 h2 h3 h4 h5;exact⟨h1,h4,h5,h2,h3⟩
 ·rintro⟨h1,h2,h3,h4,h5⟩;simp only at h1 h2 h3 h4 h5;subst h1;subst h2;subst h3;subst h4;subst h5;rfl
theorem qU{r:Rec}{kv rv:Value}{cs:List Value}(hcs:r.cells kv rv=cs)(hl:cs.length=39)(hh:r.hash.length=32):cs[38]'(by omega) = .int .i64 r.size:=by
 subst hcs;have h:(r.cells kv rv)[38]? = some (.int .i64 r.size):=by
  unfold Rec.cells;rw[List.getElem?_append_right (by simp),List.getElem?_append_right (by rw[Lib.byteCells_length,hh];simp),Lib.byteCells_length,hh];rfl
 rw[List.getElem?_eq_getElem (by omega)]at h;exact Option.some.inj h

section
variable {P : Program}
theorem xY{ops:Array Oper}{rest:List Oper}{o:Oper}{a:Act}{w:World}{Q:Exit->Act->World->Prop}(hw:Region.wanted o (yielded ops a.tmps)=true)
 (h:∀K:Act->World->Prop,(∀a w,wpList P ops Q rest a w->K a w)->o.wp P a w K Q):wpList P ops Q (o :: rest) a w :=
 wpList_step fun K hK=>by rw[if_pos hw];exact h K hK
/-- A load of a row of cells, guarded or not. -/
theorem aI{ops:Array Oper}{rest:List Oper}{op:Oper}{a:Act}{w:World}{Q:Exit->Act->World->Prop}(hw:Region.wanted op (yielded ops a.tmps)=true)(ty:TypeId)(x:Operand)(ho:op.op = .load ty x)
 (b o:Nat) (hx:a.eval x = .pointer (some ⟨b,o,none⟩)) (cs:List Value) (d:TypeDesc) (hc:w.rangeAt b o cs)
 (hu:P.underlying ty=some d) (hd:d.isRow=true) (hi:(P.info? ty).map (·.size)=some cs.length)
 (h:wpList P ops Q rest (a.put op.dst (.agg cs.toArray)) w):wpList P ops Q (op :: rest) a w :=
 xY hw fun _ hK=>wp_load_mid ty x ho b o hx cs d hc hu hd hi (hK _ _ h)
end
set_option maxRecDepth 20000 in
theorem zbg(S S':Nat->Prop)(a b:Rec)(ca cb:List Value)(w:World)(ha:aT S w ca a)(hb:aT S' w cb b)(hk:a.bulk<=4194304) :
 Calls Tryz.prog 78 #[.agg ca.toArray,.agg cb.toArray] w fun e w'=>e = .returned (.bool (Jd a b))/\Below w.heap.size w w':=by
 have hla:=ha.length;have hlb:=hb.length;obtain⟨kv,rv,hca,hha,hka,hra⟩:=ha;obtain⟨kv',rv',hcb,hhb,hkb,hrb⟩:=hb;have HKA:=yH hka;have HRA:=yH hra;have HKB:=yH hkb;have kL:=yH hrb;have HCA:=yH hca.symm;have QW:=yH hcb.symm;obtain⟨ao,cap,rfl,_,_,_⟩:=hka;obtain⟨dL,cap2,rfl,_,_,_⟩:=hra;obtain⟨ao',cap',rfl,_,_,_⟩:=hkb;obtain⟨Xo,Ou,rfl,_,_,_⟩:=hrb;obtain⟨q0,q1,q2,q3,q4,q5⟩:=fJ hca.symm hla hha;obtain⟨p0,p1,p2,p3,p4,p5⟩:=fJ hcb.symm hlb hhb;have q38:=qU hca.symm hla hha;have p38:=qU hcb.symm hlb hhb;have F:=aQ (w:=w) (z:=ca.toArray) (z2:=cb.toArray) (t:=31) (t2:=31) rfl;have XA:Hid (RB _ w.heap.size a (.slice ao a.tree.kids.len cap) (.slice dL a.refs.length cap2)):=yH ⟨by rw[HCA.out];exact F.2.1,hha⟩;have XB:Hid (RB _ (w.heap.size+1) b (.slice ao' b.tree.kids.len cap') (.slice Xo b.refs.length Ou)):=yH ⟨by rw[QW.out];exact F.2.2,hhb⟩;have BW:=yH F.1;have r1:=XA.out.hash;have r2:=XB.out.hash;have HQ:=yH (fun w=>Ot a.hash b.hash hha hhb w);obtain⟨RA,Ht⟩:∃RC,Lib.byteCells a.hash=RC:=⟨_,rfl⟩;obtain⟨RU,Uf⟩:∃RC,Lib.byteCells b.hash=RC:=⟨_,rfl⟩;have wM:RA.length=32:=(by rw[←Ht,Lib.byteCells_length,hha]);have FN:RU.length=32:=(by rw[←Uf,Lib.byteCells_length,hhb]);rw[Ht]at r1 HQ;rw[Uf]at r2 HQ;have hu:=Tryz.underlying29;have hbad:¬(a.path=b.path/\a.hash=b.hash/\a.size=b.size/\a.tree=b.tree/\a.refs=b.refs)->Jd a b=false:=fun h=>decide_eq_false (fun h2=>h (rec_eq.1 h2))
 have HQ0:a.path=b.path->a.hash=b.hash->a.size=b.size->Jd a b=(Eq.wZ a.tree b.tree&&decide (a.refs=b.refs)):=fun h1 h2 h3=>by
  unfold Jd Eq.wZ;rw[←Bool.decide_and,decide_eq_decide,rec_eq];simp[h1,h2,h3]
 have hbt:a.tree.bulk<=4194304:=(by unfold Rec.bulk at hk;omega);clear F hca hcb Ht Uf
 go_enter Tryz.func78,Tryz.ntmps78;by_cases h1:a.path=b.path
 case neg =>
  have t1:(a.path.toList==b.path.toList)=false:=(by rw[Eq.bytes_beq];exact decide_eq_false h1);have HE:=yH (hbad (fun h=>h1 h.1));clear hbad HQ0 h1
  go_wp2_with fail
  go_ret;exact⟨by rw[HE.out];rfl,BW.out⟩
 have t1:(a.path.toList==b.path.toList)=true:=(by rw[Eq.bytes_beq];exact decide_eq_true h1);by_cases h2:a.hash=b.hash
 case neg =>
  have hq:=fun w=>HQ.out w
  rw[show(a.hash==b.hash)=false by simpa using h2]at hq;have HE:=yH (hbad (fun h=>h2 h.2.1));clear hbad HQ0 h2 h1
  go_wp2_with (first
   | (refine aI (by first|rfl|simp[Region.wanted,yielded]) 29 _ (by rfl) w.heap.size 6 (by rfl) RA _ r1 hu rfl (by rw[wM];kernel_rfl) ?_)
   | (refine aI (by first|rfl|simp[Region.wanted,yielded]) 29 _ (by rfl) (w.heap.size+1) 6 (by rfl) RU _ r2 hu rfl (by rw[FN];kernel_rfl) ?_))
  go_ret;exact⟨by rw[HE.out];rfl,BW.out⟩
 have hq:=fun w=>HQ.out w
 rw[show(a.hash==b.hash)=true by simpa using h2]at hq;by_cases h3:a.size=b.size
 case neg =>
  have t3:(a.size==b.size)=false:=(by simpa using h3);have HE:=yH (hbad (fun h=>h3 h.2.2.1));clear hbad HQ0 h2 h1 h3
  go_wp2_with (first
  | (refine aI (by first|rfl|simp[Region.wanted,yielded]) 29 _ (by rfl) w.heap.size 6 (by rfl) RA _ r1 hu rfl (by rw[wM];kernel_rfl) ?_)
  | (refine aI (by first|rfl|simp[Region.wanted,yielded]) 29 _ (by rfl) (w.heap.size+1) 6 (by rfl) RU _ r2 hu rfl (by rw[FN];kernel_rfl) ?_))
  go_ret;exact⟨by rw[HE.out];rfl,BW.out⟩
 have t3:(a.size==b.size)=true:=(by simpa using h3);have HE:=yH (HQ0 h1 h2 h3);clear hbad HQ0 h1 h2 h3
 go_wp2_with (first
 | (refine aI (by first|rfl|simp[Region.wanted,yielded]) 29 _ (by rfl) w.heap.size 6 (by rfl) RA _ r1 hu rfl (by rw[wM];kernel_rfl) ?_)
 | (refine aI (by first|rfl|simp[Region.wanted,yielded]) 29 _ (by rfl) (w.heap.size+1) 6 (by rfl) RU _ r2 hu rfl (by rw[FN];kernel_rfl) ?_))
 refine ae fun w1 hw1=>?_
 have B1:=BW.out;rw[hw1]at B1;have hkA:=HKA.out.below B1;have hkB:=HKB.out.below B1;have hxA:=XA.out;have hxB:=XB.out;rw[hw1]at hxA hxB;have XA1:=yH hxA;have XB1:=yH hxB;clear hw1 r1 r2 XA XB BW q0 q1 q2 q3 q4 q5 q38 p0 p1 p2 p3 p4 p5 p38 hq hxA hxB;refine(Eq.FM S S' a.tree b.tree _ _ w1 hkA hkB hbt).mono ?_;rintro e w2 ⟨rfl,b2⟩;have B2:=B1.trans (b2.mono B1.size);obtain⟨T,hT⟩:∃T,Eq.wZ a.tree b.tree=T:=⟨_,rfl⟩;rw[hT]at HE ⊢;clear hT;cases T with
 | false =>
  go_wp2_with fail
  go_ret;exact⟨by rw[HE.out];rfl,B2⟩
 | true =>
  have g5:=(XA1.out.below b2).c5;have g5':=(XB1.out.below b2).c5
  go_wp2_with fail;refine(Eq.RH w2 _ _ a.refs b.refs (HRA.out.below B2).reads (kL.out.below B2).reads).mono ?_;rintro e w3 ⟨rfl,hsm⟩;obtain⟨R,hR⟩:∃R,decide (a.refs=b.refs)=R:=⟨_,rfl⟩;rw[hR]at HE ⊢;clear hR
  go_wp2_with fail
  go_ret;exact⟨by rw[HE.out];rfl,hsm.below B2⟩
end St
end Go.Proofs.YtmmmghpimdfleaaGreatDoor
