/-
  slices.Delete of one element at []string and []Record, by what the rows own; table.Cut and Store.Cut.
  table.Cut, Store.Cut.
  View.Refs: a path's references.
  View.Bytes: the bytes of all zbu.
-/
import Derived.Test.YtmmmghpimdfleaaGreatDoorTk
import Derived.Test.YtmmmghpimdfleaaGreatDoorGrpL
import Derived.Sort.OwnSorted
import Derived.Test.YtmmmghpimdfleaaGreatDoorGrpV
import Derived.Test.YtmmmghpimdfleaaGreatDoorGrpN
import Derived.Test.YtmmmghpimdfleaaGreatDoorGrpQ
import Derived.Test.YtmmmghpimdfleaaGreatDoorGrpR
set_option linter.unusedVariables false
set_option maxHeartbeats 4000000
set_option linter.unusedSimpArgs false
namespace Go.Proofs.YtmmmghpimdfleaaGreatDoor
namespace Own
open Go.RowKit Mem
/-- What a deletion gives. -/
def AX(w:World)(v:Value)(n k:Nat)(ys:List Value)(t:TypeId)(e:Ending)(w':World):Prop :=
 ∃v',e = .returned v'/\w'.ownsRow 0 t k v' n ys/\Kp (fun b=>v.ownBlock=some b) w w'/\∀b,v'.ownBlock=some b->v.ownBlock=some b
theorem OL{w:World}{b:Nat}{cs:Array Value}{t:TypeId}(h:Bx w b cs t)(q:Nat):Bx (w.drewN q) b cs t:=h.dn (Dn.drewN w q)
theorem OM{w w':World}{g c:Nat}{cur:Array Value}{xs Z:List Value}{n i k:Nat}{t:TypeId}(hb:Bx w g cur t)(hi:i<n)(hl:xs.length=n*k)(hZ:Z.length=k)(hs:cur.size=c*k)(hn:n<=c)(hm:c<=maxLen)(hx:∀j,j<n*k->cur[j]? = xs[j]?)
 (hw:∃q,w'=((w.drewN q).setCells g (i*k) (xs.drop ((i+1)*k))).setCells g ((n-1)*k) Z) :
 AX w (.slice (some ⟨g,0,none⟩) n c) (n-1) k (xs.take (i*k)++xs.drop ((i+1)*k)) t (.returned (.slice (some ⟨g,0,none⟩) (n-1) c)) w':=by
 obtain⟨q,rfl⟩:=hw;have hb0:=OL hb q;obtain⟨c1,b1,s1⟩:=bH (xs.drop ((i+1)*k)) (i*k) _ hb0;obtain⟨c2,b2,s2⟩:=bH Z ((n-1)*k) _ b1;have e1:(i+1)*k=i*k+k:=Nat.succ_mul _ _;have e2:n*k=(n-1)*k+k:=(by rw[←Nat.succ_mul];congr 1;omega);have h1:i*k<=(n-1)*k:=Nat.mul_le_mul_right _ (by omega);have h2:n*k<=c*k:=Nat.mul_le_mul_right _ hn;have hdl:(xs.drop ((i+1)*k)).length=(n-1)*k-i*k:=(by rw[List.length_drop,hl,e1,e2];omega);refine⟨_,rfl,jm b2 (Nat.zero_le _) (by rw[s2,s1,hs]) (by omega) hm ?_ (fun j hj=>?_),?_,fun b h=>h⟩
 ·rw[List.length_append,List.length_take,hdl];omega
 ·rw[World.cell?_setCells_out _ _ _ _ _ (fun _ _=>.inl (by show j<(n-1)*k;exact hj))];have htl:(xs.take (i*k)).length=i*k:=(by rw[List.length_take];omega);by_cases hji:j<i*k
  ·rw[World.cell?_setCells_out _ _ _ _ _ (fun _ _=>.inl (by show j<i*k;exact hji)),hb0.cell,hx j (by omega),List.getElem?_append_left (by omega),List.getElem?_take,if_pos hji]
  ·rw[List.getElem?_append_right (by omega),htl];obtain⟨d,rfl⟩:∃d,j=i*k+d:=⟨j-i*k,by omega⟩;rw[show i*k+d-i*k=d by omega];have hd:d<(xs.drop ((i+1)*k)).length:=(by omega);have hr:=World.rangeAt_setCells_same (w.drewN q) g (i*k) (xs.drop ((i+1)*k)) (fun j hj=>⟨dN hb0 (by omega),hb0.frozen _⟩) d _ (List.getElem?_eq_getElem hd);rw[hr,List.getElem?_eq_getElem hd]
 ·have hM:g<w.heap.size->(fun b=>(Value.slice (some ⟨g,0,none⟩) n c).ownBlock=some b) g:=fun _=>rfl
  exact aW hM _ _ (aW hM _ _ (Kp.kE (Dn.drewN w q)))
theorem FZ(w:World)(t e ty:TypeId)(z:Value)(ht:Tryz.prog.underlying t=some (.slice e))(hv:∀w,(zeroValue e).run Tryz.prog w = .ok z w)(b o c:Nat)(Z:List Value)(hz:(Builtin.zeroCells z.cells 1).toList=Z)(h1:∀v∈Z,v.oneCell'=true)
 (hc:∀j,j<Z.length->(w.cell? ⟨b,o+j,none⟩).isSome=true) (hf:∀j,j<Z.length->w.frozen? ⟨b,o+j,none⟩=false) :
 (Builtin.clear_ #[t] ty #[.slice (some ⟨b,o,none⟩) 1 c]).run Tryz.prog w = .ok (.tuple #[]) (w.setCells b o Z):=by
 have hst:=run_storeCells_cells (P:=Tryz.prog) b o Z 0 w (by simpa using hc) (by simpa using hf) h1;simp only[Nat.add_zero]at hst;simp[Builtin.clear_,run_underlying ht,hv,hz,hst]
theorem F5:(Builtin.zeroCells Ins.ah.cells 1).toList=Ins.ah.cells.toList:=by kernel_rfl
theorem OO:∀w,(zeroValue 31).run Tryz.prog w = .ok Ins.ah w:=fun _=>by kernel_rfl
theorem DT:∀v∈Ins.ah.cells.toList,v.oneCell'=true:=by
 intro v hv;simp only[Ins.ah,Value.cells,List.mem_append,List.mem_cons,List.not_mem_nil,or_false,List.mem_replicate]at hv;rcases hv with(rfl|rfl|rfl|rfl|rfl|rfl)|(⟨_,rfl⟩|rfl)<;>rfl
set_option maxRecDepth 100000 in
theorem Sj(g n c i:Nat)(cur:Array Value)(xs:List Value)(w:World)(hb:Bx w g cur 31)(hi:i<n)(hl:xs.length=n*39)(hs:cur.size=c*39)(hn:n<=c)(hm:c<=9223372036854775807)(hx:∀j,j<n*39->cur[j]? = xs[j]?)(h1:∀v∈xs,v.oneCell'=true) :
 Calls Tryz.prog 124 #[.slice (some ⟨g,0,none⟩) n c,.int .i64 i,.int .i64 ((i:Int)+1)] w fun e w'=>e = .returned (.slice (some ⟨g,0,none⟩) (n-1) c)/\∃q,w'=((w.drewN q).setCells g (i*39) (xs.drop ((i+1)*39))).setCells g ((n-1)*39) Ins.ah.cells.toList:=by
 have rq:Tryz.prog.follows .mixedOrders=true:=(by kernel_rfl);have xX:=Tryz.underlying22;obtain⟨i0,hi0,hz0,hz1,hz2⟩:=info_parts Ins.fO;obtain⟨news,hnews⟩:∃news,news=xs.drop ((i+1)*39):=⟨_,rfl⟩;have hlen:news.length=(n-(i+1))*39:=(by rw[hnews,List.length_drop,hl];omega);have hcell:∀j,j<n*39->w.cell? ⟨g,j,none⟩=xs[j]?:=fun j hj=>by rw[hb.cell,hx j hj]
 obtain⟨A,hA,hsrc⟩:∃A:Addr,(if c=i+1 then some (⟨g,0,none⟩:Addr)else some ⟨g,(i+1)*39,none⟩)=some A/\Hid (∀t u,news[t]? = some u->w.drew.cell? (A.add t)=some u):=by
  by_cases h:c=i+1
  ·refine⟨⟨g,0,none⟩,by simp[h],yH fun t u hu=>?_⟩;have h0:news.length=0:=(by rw[hlen];omega);rw[List.length_eq_zero_iff.1 h0]at hu;simp at hu
  ·refine⟨⟨g,(i+1)*39,none⟩,by simp[h],yH fun t u hu=>?_⟩;have ht:t<(n-(i+1))*39:=(by have:=(List.getElem?_eq_some_iff.1 hu).1;rwa[hlen]at this);rw[Addr.add_lit];show w.cell? ⟨g,(i+1)*39+t,none⟩=some u;rw[hcell _ (by omega),←List.getElem?_drop,←hnews];exact hu
 have s2:Hid (∀u∈news,u.oneCell'=true):=yH fun u hu=>h1 u (by rw[hnews]at hu;exact List.mem_of_mem_drop hu)
 have s3:Hid (∀t,t<news.length->(w.drew.cell? ⟨g,0+i*39+t,none⟩).isSome=true/\w.drew.frozen? ⟨g,0+i*39+t,none⟩=false):=yH fun t ht=>by
  rw[hlen]at ht;exact⟨dN (w:=w) hb (by omega),hb.frozen _⟩
 obtain⟨W1,hW1⟩:∃W1,W1=w.drew.setCells g (0+i*39) news:=⟨_,rfl⟩;have hb1:∃c1,Bx W1 g c1 31/\c1.size=cur.size:=(by rw[hW1];exact bH news (0+i*39) w.drew hb);obtain⟨c1,hb1,hsz1⟩:=hb1;have hcl:∀ty cc,(Builtin.clear_ #[22] ty #[.slice (some ⟨g,(i+(n-(i+1)))*39,none⟩) 1 cc]).run Tryz.prog W1 = .ok (.tuple #[]) (W1.setCells g ((i+(n-(i+1)))*39) Ins.ah.cells.toList) :=
  fun ty cc=>FZ W1 _ _ ty _ xX OO g _ cc _ F5 DT (fun j hj=>dN hb1 (by have:Ins.ah.cells.toList.length=39:=rfl;omega)) (fun j hj=>hb1.frozen _)
 have hW:Hid (W1=w.drew.setCells g (0+i*39) news):=yH hW1;have HL:=yH hlen;have HNW:=yH hnews;have hic:i<=c:=(by omega);have hjc:i+1<=c:=(by omega);have hN:n-(i+(n-(i+1)))=1:=(by omega);have j0:(0:Int)<=(i:Int)+1:=(by omega);have j1:(i:Int)+1<=(n:Int):=(by omega);clear hW1 hb1 hb hx hcell hnews hlen
 go_enter Tryz.func124,Tryz.ntmps124
 go_wp2_with fail
 go_region_law_o (refine step_append_room rfl (.tmp 22) (.tmp 25) 22 rfl 31 i0 39 xX hi0 hz1 g 0 i c (by simp[Act.eval,Act.put]) A (n-(i+1)) (c-(i+1)) news (by simp[Act.eval,Act.put]) HL.out hsrc.out s2.out (by omega) s3.out ?_;rw[←hW.out])
 go_wp2
 go_ret;rename_i x9 CZ sO;have e9:CZ=Ins.ah.cells:=(by have:=sO;unfold Ins.ah at this ⊢;injection this with h;rw[←h];rfl);refine⟨by rw[show i+(n-(i+1))=n-1 by omega];rfl,1,?_⟩;rw[e9,hW.out,HNW.out,Nat.zero_add,show i+(n-(i+1))=n-1 by omega];rfl
theorem Xz(v:Value)(n i:Nat)(xs:List Value)(w:World)(hown:w.ownsRow 0 31 39 v n xs)(hi:i<n)(h1:∀v∈xs,v.oneCell'=true) :
 Calls Tryz.prog 124 #[v,.int .i64 i,.int .i64 ((i:Int)+1)] w (AX w v (n-1) 39 (xs.take (i*39)++xs.drop ((i+1)*39)) 31):=by
 rcases dO hown with⟨_,h0,_⟩|⟨g,cap,cur,rfl,_,hb,hn,hm,hs,kR⟩
 ·omega
 refine(Sj g n cap i cur xs w hb hi hown.1 hs hn (by unfold maxLen at hm;omega) kR h1).mono ?_;rintro e w' ⟨rfl,hw⟩;exact OM hb hi hown.1 (by rfl) hs hn hm kR hw
theorem XC(v:Value)(n i:Nat)(l:List ByteArray)(w:World)(hl:l.length=n)(hown:w.ownsRow 0 9 1 v n (l.map .string))(hi:i<n) :
 Calls Tryz.prog 123 #[v,.int .i64 i,.int .i64 ((i:Int)+1)] w (AX w v (n-1) 1 ((l.take i++l.drop (i+1)).map .string) 9):=by
 rcases dO hown with⟨_,h0,_⟩|⟨g,cap,cur,rfl,_,hb,hn,hm,hs,kR⟩
 ·omega
 have enc:∀m:List ByteArray,m.map Value.string=(m.map fun s=>s.data.toList).map Go.Proofs.encStr:=fun m=>by
  rw[List.map_map];exact List.map_congr_left fun s _=>rfl
 have hbk:w.heap[g]? = some (.cells cur 9 (0,0)):=hb;have hH:Go.Sort.Holds Go.Proofs.encStr w g 0 (l.map fun s=>s.data.toList).toArray:=(by intro j hj;have hjl:j<l.length:=(by simpa using hj);refine⟨?_,hb.frozen _⟩;rw[Nat.zero_add,hb.cell,kR j (by omega)];simp[hjl,Go.Proofs.encStr]);have hc2:=Ins.slices_Delete_string g 0 cap i (i+1) (l.map fun s=>s.data.toList) w hH (by rw[List.length_map];omega) (by unfold maxLen at hm;omega) (by omega) (by rw[List.length_map];omega);rw[List.length_map,hl,show i+1-i=1 by omega,Int.natCast_add]at hc2;refine hc2.mono ?_;rintro e w' ⟨rfl,q,rfl⟩;obtain⟨L,hL⟩:∃L,(l.map fun s=>s.data.toList)=L:=⟨_,rfl⟩;have Me:L.length=n:=(by rw[←hL,List.length_map,hl]);rw[hL];obtain⟨ts,hts⟩:∃ts,L.take i++L.drop (i+1)++List.replicate 1 []=ts:=⟨_,rfl⟩;have htl:ts.length=n:=(by rw[←hts];simp;omega);rw[hts];have hx:Bx (Go.Sort.putRow Go.Proofs.encStr (Go.Sort.ahead w q) g 0 ts.toArray) g (Go.Sort.putCells Go.Proofs.encStr 0 ts.toArray cur) 9:=by
  have:=Go.heap_sorted (n:=q) (os:=#[]) ts.toArray hbk;unfold Bx
  simpa using this
 have hk:Kp (fun b=>g=b) w (Go.Sort.putRow Go.Proofs.encStr (Go.Sort.ahead w q) g 0 ts.toArray):=by
  have:=Kp.fA (M:=fun b=>g=b) (Go.grownBy_sorted (w:=w) (g:=g) (n:=q) (os:=#[]) ts.toArray) (fun r e _=>Option.some.inj e)
  simpa using this
 have htk:=Go.take_putCells cur ts (by omega);refine⟨_,rfl,jm hx (Nat.zero_le _) (by simp[Go.Sort.putCells,hs]) (by omega) hm ?_ (fun j hj=>?_),hk.mono (fun b _ e=>by show some g=some b;rw[e]),fun b h=>h⟩
 ·simp;omega
 ·have hj1:j<n-1:=(by omega);have h2:((Go.Sort.putCells Go.Proofs.encStr 0 ts.toArray cur).toList.take ts.length)[j]? = (ts.map Go.Proofs.encStr)[j]?:=(by rw[htk]);rw[List.getElem?_take,if_pos (by omega),Array.getElem?_toList]at h2;rw[hx.cell,h2,enc,List.getElem?_map,List.getElem?_map,←hts,List.getElem?_append_left (by simp;omega),List.map_append,List.map_take,List.map_drop,hL]
end Own

namespace Tab
open Go.RowKit Mem Tr
open Go.Proofs.YtmmmghpimdfleaaGreatDoor.Own
theorem JE{rs:List Rec}(hr:Sp.bf Rec.path rs){p:ByteArray}(h:aJ.has rs p=true) :
 Sp.place Rec.path rs p<rs.length/\Sp.cut Rec.path rs p=rs.take (Sp.place Rec.path rs p)++rs.drop (Sp.place Rec.path rs p+1):=by
 unfold aJ.has at h;have hp:=Sp.rX hr p;by_cases hlt:Sp.place Rec.path rs p<rs.length
 ·rw[dif_pos hlt]at hp;by_cases he:rs[Sp.place Rec.path rs p].path=p
  ·refine⟨hlt,?_⟩;have hsp:rs=rs.take (Sp.place Rec.path rs p)++rs[Sp.place Rec.path rs p] :: rs.drop (Sp.place Rec.path rs p+1):=(by rw[←List.drop_eq_getElem_cons hlt,List.take_append_drop]);have hnd:∀j (hj:j<rs.length),j≠Sp.place Rec.path rs p->rs[j].path≠p:=by
    intro j hj hne e;have h1:=Sp.lW hr (List.getElem_mem hj) (List.getElem_mem hlt) (e.trans he.symm);rcases Nat.lt_or_gt_of_ne hne with hl|hl
    ·have:=List.pairwise_iff_getElem.1 hr j _ hj hlt hl;rw[e,he,Sp.lt_irrefl]at this;cases this
    ·have:=List.pairwise_iff_getElem.1 hr _ j hlt hj hl;rw[e,he,Sp.lt_irrefl]at this;cases this
   have keep:∀l:List Rec,(∀r∈l,r.path≠p)->l.filter (fun r=>decide (r.path≠p))=l:=fun l hl=>by
    rw[List.filter_eq_self];intro r hr;simpa using hl r hr
   unfold Sp.cut
   conv=>lhs;rw[hsp]
   rw[List.filter_append,List.filter_cons_of_neg (by simpa using he),keep _ (fun r hr=>?_),keep _ (fun r hr=>?_)]
   ·obtain⟨j,hj,rfl⟩:=List.getElem_of_mem hr;simp at hj;rw[List.getElem_drop];exact hnd _ (by omega) (by omega)
   ·obtain⟨j,hj,rfl⟩:=List.getElem_of_mem hr;simp at hj;rw[List.getElem_take];exact hnd j (by omega) (by omega)
  ·rw[if_neg he]at hp;rw[hp]at h;cases h
 ·rw[dif_neg hlt]at hp;rw[hp]at h;cases h
theorem F6{rs:List Rec}(hr:Sp.bf Rec.path rs)(p:ByteArray):Sp.bf Rec.path (Sp.cut Rec.path rs p):=List.Pairwise.sublist List.filter_sublist hr
/-- What Cut gives where the key is there. -/
def OQ(M F:Nat->Prop)(w:World)(t:Nat)(rs:List Rec)(e:Ending)(w':World):Prop :=
 e = .returned (.bool true)/\∃M',At M' F w' t rs/\Kp M w w'/\∀b,M' b->M b
set_option maxRecDepth 20000 in
theorem Le(M F:Nat->Prop)(t:Nat)(rs:List Rec)(p:ByteArray)(w:World)(h:At M F w t rs)(hin:aJ.has rs p=true)(hn:rs.length<=1073741823) :
 Calls Tryz.prog 81 #[.pointer (some ⟨t,0,none⟩),.string p] w (OQ M F w t (Sp.cut Rec.path rs p)):=by
 have HAT:=yH h;obtain⟨⟨kv,vv,xs,b0,o1,o2,hv,m1,m2⟩,mt,uQ,lt,uC,rise⟩:=h;obtain⟨hlt,hcut⟩:=JE rise hin;have hsc:=vk kv rs p w o1 rise (by omega);rw[hin]at hsc;obtain⟨I,hI⟩:∃I,Sp.place Rec.path rs p=I:=⟨_,rfl⟩;rw[hI]at hsc hlt hcut;have F7:=yH hcut;have Jw:=yH o1;have o9:=yH o2;have HV:=yH hv;have B0:=yH b0;obtain⟨n,hnn⟩:∃n,rs.length=n:=⟨_,rfl⟩;rw[hnn]at hlt hn Jw o9;have HN:=yH hnn;obtain⟨ka,kc,rfl⟩:=aO o1;obtain⟨va,vc,rfl⟩:=aO o2;rw[hnn]at B0 hsc Jw o9 m1 m2;have c0:w.cell? ⟨t,0,none⟩=some (.slice ka n kc):=B0.out.cell 0;clear hcut hI o1 o2 hv b0 rise hin hnn;have e0:(0:Int)<=(I:Int):=Int.natCast_nonneg _;have hw:IntKind.i64.wrap ((I:Int)+1)=(I:Int)+1:=(by rw[IntKind.wrap_i64];omega)
 go_enter Tryz.func81,Tryz.ntmps81
 go_wp2_with fail;refine hsc.mono ?_;rintro e w1 ⟨rfl,q,hw1⟩;have dn1:Dn w w1:=⟨q,hw1⟩;clear hsc hw1 c0;have B1:=yH (B0.out.dn dn1);have c0:w1.cell? ⟨t,0,none⟩=some (.slice ka n kc):=B1.out.cell 0;have O1:=iI Jw.out (w':=w1) (fun b _=>by rw[dn1.heap]);have O2:=iI o9.out (w':=w1) (fun b _=>by rw[dn1.heap]);have OO1:=yH O1;have OO2:=yH O2;clear O1 O2
 go_wp2_with fail;refine(XC _ n I (rs.map Rec.path) w1 (by rw[List.length_map];exact HN.out) (by rw[List.map_map];exact OO1.out) hlt).mono ?_;rintro e w2 ⟨kv',rfl,hown2,xG,Om⟩;obtain⟨ka',YC,rfl⟩:=aO hown2;have HW2:=yH hown2;have b2:Bx w2 t #[.slice ka n kc,.slice va n vc] 174:=B1.out.kp xG (fun e=>dw OO1.out B1.out (by decide) e);have o22:=yH (aN OO2.out xG (fun b hb h=>kZ OO1.out OO2.out (by decide) b h hb));have f2:=b2.frozen 0;have BB2:=yH b2;have d2:w2.cell? ⟨t,0,none⟩=some (.slice ka n kc):=b2.cell 0;have d21:w2.cell? ⟨t,1,none⟩=some (.slice va n vc):=b2.cell 1;have d3:(w2.setCell ⟨t,0,none⟩ (.slice ka' (n-1) YC)).cell? ⟨t,1,none⟩=some (.slice va n vc):=by
  have:=(b2.set 0 (.slice ka' (n-1) YC)).cell 1
  simpa using this
 clear hown2 b2
 go_wp2_with fail;refine ae fun w3 hw3=>?_
 have b3:Bx w3 t #[.slice ka' (n-1) YC,.slice va n vc] 174:=by
  have:=BB2.out.set 0 (.slice ka' (n-1) YC);rw[hw3]at this
  simpa using this
 have xH:Kp (fun b=>b=t) w2 w3:=(by rw[←hw3];exact(Kp.refl _ w2).setCell _ _ (fun _=>rfl));have o13:=yH (aN HW2.out xH (fun b hb e=>dw HW2.out BB2.out (by decide) (by rw[hb,e])));have Xk:=yH (aN o22.out xH (fun b hb e=>dw o22.out BB2.out (by decide) (by rw[hb,e])));have BB3:=yH b3;clear hw3 b3 f2 d2 d21 d3;refine(Xz _ n I xs w3 Xk.out hlt HV.out.one).mono ?_;rintro e w4 ⟨AP,rfl,hown4,PK,RN⟩;obtain⟨va',vc',rfl⟩:=aO hown4;have HW4:=yH hown4;have b4:Bx w4 t #[.slice ka' (n-1) YC,.slice va n vc] 174:=BB3.out.kp PK (fun e=>dw Xk.out BB3.out (by decide) e);have o14:=yH (aN o13.out PK (fun b hb h=>kZ o13.out Xk.out (by decide) b hb h));have f4:=b4.frozen 1;have d4:w4.cell? ⟨t,1,none⟩=some (.slice va n vc):=b4.cell 1;have BB4:=yH b4;clear hown4 b4
 go_wp2_with fail
 go_ret;have b5:Bx (w4.setCell ⟨t,1,none⟩ (.slice va' (n-1) vc')) t #[.slice ka' (n-1) YC,.slice va' (n-1) vc'] 174:=(by simpa using BB4.out.set 1 (.slice va' (n-1) vc'));have GN:Kp (fun b=>b=t) w4 (w4.setCell ⟨t,1,none⟩ (.slice va' (n-1) vc')):=(Kp.refl _ w4).setCell _ _ (fun _=>rfl);have o15:=aN o14.out GN (fun b hb e=>dw o14.out BB4.out (by decide) (by rw[hb,e]));have o25:=aN HW4.out GN (fun b hb e=>dw HW4.out BB4.out (by decide) (by rw[hb,e]));have kA:Kp M w (w4.setCell ⟨t,1,none⟩ (.slice va' (n-1) vc')) :=
  ((((Kp.kE dn1:Kp M w w1).trans xG (fun _ _ h=>h) (fun i _ h=>m1 i h)).trans xH (fun _ _ h=>h) (fun i _ e=>by rw[e];exact mt)).trans PK (fun _ _ h=>h) (fun i _ h=>m2 i h)).setCell ⟨t,1,none⟩ _ (fun _=>mt)
 have hl:(Sp.cut Rec.path rs p).length=n-1:=(by rw[F7.out,List.length_append,List.length_take,List.length_drop,HN.out];omega);have vr:=iq.append ((HV.out.split (I+1)).2) ((HV.out.split I).1);rw[←F7.out]at vr;refine⟨rfl,M,⟨⟨_,_,_,b5,?_,?_,vr.ag (Ag.bg kA fun k _ hk hm=>uQ k hm hk),fun b hb=>m1 b (Om b hb),fun b hb=>m2 b (RN b hb)⟩,mt,uQ,fun b hb=>Nat.lt_of_lt_of_le (lt b hb) kA.size,fun b hb=>Nat.lt_of_lt_of_le (uC b hb) kA.size,F6 HAT.out.rise p⟩,kA,fun b hb=>hb⟩
 ·rw[hl,F7.out];have e:(rs.take I++rs.drop (I+1)).map (fun r=>Value.string r.path)=((rs.map Rec.path).take I++(rs.map Rec.path).drop (I+1)).map Value.string:=(by simp only[List.map_append,List.map_take,List.map_drop,List.map_map];rfl);rw[e];exact o15
 ·rw[hl];exact o25
end Tab

namespace St
open Go.RowKit Mem Tr
open Go.Proofs.YtmmmghpimdfleaaGreatDoor.Own
/-- the error's number of Cut -/
def kC(rs:List Rec)(p:ByteArray):Int:=if aJ.has rs p=true then(if gZ rs p = []then 0 else 170)else 3
def F8(rs:List Rec)(p:ByteArray):List Rec:=if kC rs p=0 then Sp.cut Rec.path rs p else rs
/-- What Store.Cut gives. -/
def Sr(M F:Nat->Prop)(w:World)(s:Nat)(n:Int)(rs:List Rec)(e:Ending)(w':World):Prop :=
 e = .returned (.int .i64 n)/\∃M',Is M' F w' s rs/\Kp M w w'/\∀b,M' b->M b
set_option maxRecDepth 20000 in
theorem Le(M F:Nat->Prop)(s:Nat)(rs:List Rec)(p:ByteArray)(w:World)(h:Is M F w s rs)(hn:rs.length<=1073741823) :
 Calls Tryz.prog 31 #[.pointer (some ⟨s,0,none⟩),.string p] w (Sr M F w s (kC rs p) (F8 rs p)):=by
 by_cases hu:aJ.has rs p=false∨gZ rs p≠[]
 ·refine(Xy M F s rs p w h hn hu).mono ?_;rintro e w' ⟨hb,rfl⟩;have hE:kC rs p=if aJ.has rs p=true then 170 else 3:=by
   unfold kC;rcases hu with h1|h1
   ·simp[h1]
   ·simp[h1]
  have hE0:kC rs p≠0:=(by rw[hE];split<;>decide);have hS:F8 rs p=rs:=(by unfold F8;rw[if_neg hE0]);rw[hS];exact⟨by rw[hE],M,h.below hb,Kp.of_below hb,fun _ h=>h⟩
 ·have h1:aJ.has rs p=true:=by
   cases hh:aJ.has rs p
   ·exact absurd (.inl hh) hu
   ·rfl
  have h2:gZ rs p = []:=(by refine Classical.byContradiction fun hne=>hu (.inr hne));have hE:kC rs p=0:=(by unfold kC;rw[if_pos h1,if_pos h2]);have hS:F8 rs p=Sp.cut Rec.path rs p:=(by unfold F8;rw[if_pos hE]);rw[hE,hS];have hR:=qj M F s rs p w h hn;have HIS:=yH h;have H1:=yH h1;have H2:=yH h2;clear h h1 h2 hu hE hS
  go_enter Tryz.func31,Tryz.ntmps31
  go_wp2_with fail;refine hR.mono ?_;rintro e w1 ⟨b1,hm⟩;rw[H1.out]at hm;obtain⟨v,rfl,hown⟩:=hm;rw[H2.out]at hown;obtain⟨ao,c,rfl⟩:=Tab.aO hown;obtain⟨⟨t,bs,ha⟩,hso⟩:=HIS.out;have c0:w1.cell? ⟨s,0,none⟩=some (.pointer (some ⟨t,0,none⟩)):=(bs.below b1).cell 0;have BS:=yH bs;have HA:=yH ha;clear hown bs ha hR;simp only[List.length_nil]
  go_wp2_with fail;refine(Tab.Le M F t rs p w1 (HA.out.below b1) H1.out hn).mono ?_;rintro e w2 ⟨rfl,M',ha2,xG,hM2⟩;have HA2:=yH ha2;clear ha2
  go_wp2_with fail
  go_ret;have kA:Kp M w w2:=(Kp.of_below b1:Kp M w w1).then xG;exact⟨rfl,M',⟨⟨t,BS.out.kp kA (fun hm=>HIS.out.uQ _ hm hso),HA2.out⟩,hso⟩,kA,hM2⟩
end St

namespace St
open Go.RowKit Mem Tr
open Go.Proofs.YtmmmghpimdfleaaGreatDoor.Own
theorem rD{w:World}{B B':Nat}{e:TypeId}{size:Nat}{v:Value}{n:Nat}{xs:List Value}(h:w.ownsRow B e size v n xs)(hB:B'<=B):w.ownsRow B' e size v n xs :=
 ⟨h.1,h.2.imp id fun⟨g,cap,cur,hv,hb,r⟩=>⟨g,cap,cur,hv,Nat.le_trans hB hb,r⟩⟩
end St

namespace St
open Go.RowKit Mem Tr Yx
open Go.Proofs.YtmmmghpimdfleaaGreatDoor.Own
attribute [local go_sem] Oper.semAt_some
/-- sizes that no sum of them wraps -/
def Small(rs:List Rec):Prop:=∀r∈rs,0<=r.size/\r.size<=1073741824
end St
end Go.Proofs.YtmmmghpimdfleaaGreatDoor
