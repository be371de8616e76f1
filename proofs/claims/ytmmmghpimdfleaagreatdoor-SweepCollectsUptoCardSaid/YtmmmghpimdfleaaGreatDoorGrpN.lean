/-
  table.Table[string, api.Record]: New, Get, Put, Len, Keys, Fork.
  table.Table[string, api.Record]: New, Len, Keys, Fork.
-/
import Derived.Test.YtmmmghpimdfleaaGreatDoorTk
import Derived.Test.YtmmmghpimdfleaaGreatDoorGrpJ
import Derived.Test.YtmmmghpimdfleaaGreatDoorGrpL
import Derived.Test.YtmmmghpimdfleaaGreatDoorGrpM
set_option linter.unusedVariables false
set_option maxHeartbeats 4000000
set_option linter.unusedSimpArgs false
namespace Go.Proofs.YtmmmghpimdfleaaGreatDoor
namespace Tab
open Go.RowKit Mem Tr
open Go.Proofs.YtmmmghpimdfleaaGreatDoor.Own
theorem vk(kv:Value)(rs:List Rec)(p:ByteArray)(w:World)(hown:w.ownsRow 0 9 1 kv rs.length (rs.map fun r=>.string r.path))(hr:Sp.bf Rec.path rs)(hn:rs.length<=4294967296) :
 Calls Tryz.prog 117 #[kv,.string p] w fun e w'=>e = .returned (.tuple #[.int .i64 (Sp.place Rec.path rs p:Nat),.bool (aJ.has rs p)])/\∃q,w'=w.drewN q:=by
 rcases dO hown with⟨rfl,h0,_⟩|⟨g,cap,cur,rfl,_,hb,hnc,hm,hs,kR⟩
 ·obtain rfl:rs = []:=List.eq_nil_of_length_eq_zero h0;refine(Bs.slices_BinarySearch_string_empty none 0 p w).mono ?_;rintro e w' ⟨rfl,rfl⟩;exact⟨rfl,0,rfl⟩
 ·refine(Bs.slices_BinarySearch_string g 0 rs.length cap (fun j=>if h:j<rs.length then rs[j].path else p) p w (by omega) (fun j hj=>?_)).mono ?_
  ·rw[Nat.zero_add,hb.cell,kR j (by omega),dif_pos hj,List.getElem?_map,List.getElem?_eq_getElem hj];rfl
  ·rintro e w' ⟨rfl,hq⟩;have hI:Bs.bsGo (fun t=>Op.bytesLess (if h:t<rs.length then rs[t].path else p).toList p.toList) rs.length 0 rs.length=Sp.place Rec.path rs p:=by
    refine Bs.bsGo_spec _ _ (fun t ht=>?_) (fun t ht=>?_) _ _ _ (by omega) (Nat.zero_le _) (Sp.qC _ _ _)
    ·have h1:t<rs.length:=Nat.lt_of_lt_of_le ht (Sp.qC _ _ _);simp only[dif_pos h1];exact Sp.before h1 ht
    ·by_cases h1:t<rs.length
     ·simp only[dif_pos h1];exact Sp.behind hr h1 ht
     ·simp only[dif_neg h1];exact Sp.lt_irrefl p
   refine⟨?_,hq⟩;rw[hI];have hb:decide (Sp.place Rec.path rs p<rs.length/\(if h:Sp.place Rec.path rs p<rs.length then rs[Sp.place Rec.path rs p].path else p)=p)=aJ.has rs p:=by
    unfold aJ.has;rw[Sp.rX hr];by_cases h1:Sp.place Rec.path rs p<rs.length
    ·rw[dif_pos h1];by_cases h2:rs[Sp.place Rec.path rs p].path=p
     ·simp[h1,h2]
     ·simp[h1,h2]
    ·rw[dif_neg h1];simp[h1]
   rw[hb]
theorem uf{w:World}{b:Nat}{zs:Array Value}(hx:Bx w b zs 31)(hz:zs.size=39)(cs:List Value)(hl:cs.length=39):(loadVar 31 ⟨b,0,none⟩).run Tryz.prog (w.setCells b 0 cs) = .ok (.agg cs.toArray) (w.setCells b 0 cs) :=
 run_loadVar_mid _ b 0 _ cs _ (World.rangeAt_setCells_same _ _ _ _ (hx.there _ (by omega))) Tryz.underlying31 rfl (by rw[hl];kernel_rfl)
theorem below_setCells{B:Nat}{a w:World}{b:Nat}(hb:B<=b)(vs:List Value)(o:Nat)(h:Below B a w)(hB:B<=a.heap.size):Below B a (w.setCells b o vs) :=
 h.trans ((aW (M:=fun k=>k=b) (fun _=>rfl) vs o (Kp.refl _ w)).below (Nat.le_trans hB h.size) (fun i hi e=>by omega))
/-- What Get gives. -/
def RJ(F:Nat->Prop)(w:World)(rs:List Rec)(p:ByteArray)(e:Ending)(w':World):Prop :=
 Below w.heap.size w w'/\match Sp.get Rec.path rs p with
 | none=>e = .returned (.tuple #[Ins.ah,.bool false])
 | some r=>∃cs,e = .returned (.tuple #[.agg cs.toArray,.bool true])/\aT F w' cs r
theorem below_drewN{B:Nat}{a b:World}(h:Below B a b)(q:Nat):Below B a (b.drewN q):=(Dn.drewN b q).sm.below h
set_option maxRecDepth 20000 in
theorem CY(M F:Nat->Prop)(t:Nat)(rs:List Rec)(p:ByteArray)(w:World)(h:At M F w t rs)(hn:rs.length<=4294967296) :
 Calls Tryz.prog 72 #[.pointer (some ⟨t,0,none⟩),.string p] w (RJ F w rs p):=by
 obtain⟨⟨kv,vv,xs,b0,o1,o2,hv,m1,m2⟩,mt,uQ,lt,uC,rise⟩:=h;have c0:∀o,(w.alloc o).cell? ⟨t,0,none⟩=some kv:=fun o=>Lib.cell?_alloc_some o (b0.cell 0)
 have c1:w.cell? ⟨t,1,none⟩=some vv:=b0.cell 1;cases hg:aJ.has rs p with
 | false =>
  go_enter Tryz.func72,Tryz.ntmps72
  go_wp2_with fail;refine ae fun w1 hw1=>?_
  obtain⟨b1,x1⟩:=af hw1;have X1:=yH (show Bx w1 w.heap.size Ins.ah.cells 31 from x1);clear hw1 x1 c0 c1;refine(vk kv rs p w1 (Copy.own_below o1 b1) rise hn).mono ?_;rintro e w2 ⟨rfl,q,rfl⟩;rw[hg];have hzl:Ins.ah.cells.toList.toArray.size=39:=rfl
  go_wp2_with (first
   | (refine wpList_load_mid rfl 31 _ (by rfl) w1.heap.size 0 (by rfl) Ins.ah.cells.toList _ (show World.rangeAt _ w1.heap.size 0 _ from(Bx.new (w1.drewN q) Ins.ah.cells 31).range) Tryz.underlying31 rfl (by kernel_rfl) ?_)
   | (refine wpList_store_mid (by rfl) 31 _ _ (by rfl) w.heap.size 0 Ins.ah.cells.toList.toArray (by rfl) (by rfl) ?h4 ?h5 ?h6 ?_;rotate_right;refine Mem.named ?_;intro W hW))
  case h4=>exact((X1.out.dn ⟨q,rfl⟩).alloc _).there _ rfl
  case h5=>kernel_rfl
  case h6=>kernel_rfl
  have B2:Below w.heap.size w ((w1.drewN q).alloc (.cells Ins.ah.cells 31)):=(below_drewN b1 q).alloc b1.size _;have hlv:=uf (((X1.out.dn ⟨q,rfl⟩).alloc (.cells Ins.ah.cells 31))) rfl Ins.ah.cells.toList rfl;have hW2:((w1.drewN q).alloc (.cells Ins.ah.cells 31)).setCells w.heap.size 0 Ins.ah.cells.toList=W:=hW;rw[hW2]at hlv;refine bodyPost_ret (v:=.tuple #[Ins.ah,.bool false]) (bT Tryz.results72 rfl hlv rfl) rfl ⟨?_,?_⟩
  ·rw[←hW2];exact below_setCells (Nat.le_refl _) _ _ B2 (Nat.le_refl _)
  ·unfold aJ.has at hg;cases hq:Sp.get Rec.path rs p with
   | none=>rfl
   | some r=>rw[hq]at hg;cases hg
 | true =>
  obtain⟨r,hr⟩:∃r,Sp.get Rec.path rs p=some r:=Option.isSome_iff_exists.1 hg;have hpl:=Sp.rX rise p;rw[hr]at hpl;split at hpl
  case isFalse=>cases hpl
  rename_i hlt;split at hpl
  case isFalse=>cases hpl
  have hre:=Option.some.inj hpl;rename_i hkey;obtain⟨cs,hrec,hcl,hcx⟩:=hv.at hlt;rw[←hre]at hrec;clear hre hpl hkey;obtain⟨I,hI⟩:∃I,Sp.place Rec.path rs p=I:=⟨_,rfl⟩;have hsc:=fun w1 h1=>vk kv rs p w1 h1 rise hn
  rw[hI]at hcx hsc;rw[hI]at hlt;rcases dO o2 with⟨rfl,h0,_⟩|⟨g,cap,cur,rfl,_,hb,hnc,hm,hs,kR⟩
  ·omega
  have hrg:w.rangeAt g (I*39) cs:=fun j u hj=>by
   have hj2:=(List.getElem?_eq_some_iff.1 hj).1;rw[hb.cell,kR _ (by omega)];exact hcx j u hj
  have HR:=yH hrg;have nC:=yH hrec;have HP:=yH hr;have HO:=yH o1;have HG:=yH (Own.Zc (n:=0) (c:=0) (a:=⟨g,0,none⟩) (g:=g) rfl);have gl:=hb.lt;have i0:(0:Int)<=(I:Int):=Int.natCast_nonneg _;have i1:(I:Int)<(rs.length:Int):=(by omega);clear hrg hrec hr hv hcx kR hb hI o2 m1 m2 hs hnc b0 HG o1
  go_enter Tryz.func72,Tryz.ntmps72
  go_wp2_with fail;refine ae fun w1 hw1=>?_
  obtain⟨b1,x1⟩:=af hw1;have X1:=yH (show Bx w1 w.heap.size Ins.ah.cells 31 from x1);have c1:=Below.cell b1 (World.block_lt_of_cell? w _ c1) |>.trans c1
  clear hw1 x1 c0;refine(hsc w1 (Copy.own_below HO.out b1)).mono ?_;rintro e w2 ⟨rfl,q,rfl⟩;rw[hg];have hrw:(w1.drewN q).rangeAt g (I*39) cs:=fun j u hj=>(b1.cell (p:=⟨g,I*39+j,none⟩) gl).trans (HR.out j u hj)
  clear hsc
  go_wp2_with (first
   | (refine wpList_load_mid rfl 31 _ (by rfl) g (I*39) (by rfl) cs _ hrw Tryz.underlying31 rfl (by rw[hcl];kernel_rfl) ?_)
   | (refine wpList_store_mid (by rfl) 31 _ _ (by rfl) w.heap.size 0 cs.toArray (by rfl) (by rfl) ?h4 ?h5 ?h6 ?_;rotate_right;refine Mem.named ?_;intro W hW))
  case h4=>exact(X1.out.dn ⟨q,rfl⟩).there _ (by rw[show cs.toArray.size=39 by simpa using hcl];rfl)
  case h5=>rw[List.size_toArray,hcl];kernel_rfl
  case h6=>exact all_oneCell_toArray (dX nC.out)
  have hlv:=uf (X1.out.dn ⟨q,rfl⟩) rfl cs hcl;have hW2:(w1.drewN q).setCells w.heap.size 0 cs=W:=hW;have B3:Below w.heap.size w W:=(by rw[←hW2];exact below_setCells (Nat.le_refl _) _ _ (below_drewN b1 q) (Nat.le_refl _));rw[hW2]at hlv;refine bodyPost_ret (v:=.tuple #[.agg cs.toArray,.bool true]) (bT Tryz.results72 rfl hlv rfl) rfl ⟨B3,?_⟩;rw[HP.out];exact⟨cs,rfl,nC.out.below B3⟩
theorem um:∀(cs:List Value) (k:Nat) (zs:Array Value),zs.size=k+cs.length->List.foldl (fun(a:Array Value) (x:Value × Nat)=>a.setIfInBounds x.snd x.fst) zs (cs.zipIdx k)=(zs.toList.take k++cs).toArray
 | [],k,zs,h=>by
  have:zs.toList.take k=zs.toList:=List.take_of_length_le (by simp at h;simp;omega);simp[this]
 | v :: r,k,zs,h=>by
  rw[List.zipIdx_cons,List.foldl_cons,um r (k+1) _ (by simp at h ⊢;omega)];have hk:k<zs.size:=(by simp at h;omega);congr 1;apply List.ext_getElem?;intro j;rw[List.getElem?_append,List.getElem?_append,List.getElem?_take,List.getElem?_take];simp only[List.length_take,Array.length_toList,Array.size_setIfInBounds,Array.getElem?_toList,Array.getElem?_setIfInBounds];by_cases h1:j<k
  ·rw[if_pos (show j<min (k+1) zs.size by omega),if_pos (show j<min k zs.size by omega),if_pos (by omega),if_pos h1,if_neg (by omega)]
  ·by_cases h2:j=k
   ·subst h2;rw[if_pos (show j<min (j+1) zs.size by omega),if_neg (show ¬j<min j zs.size by omega),if_pos (by omega),if_pos rfl,if_pos hk,show j-min j zs.size=0 by omega];rfl
   ·have h3:¬j<k+1:=(by omega);have h4:¬j<min k zs.size:=(by omega);have h5:¬j<min (k+1) zs.size:=(by omega);rw[if_neg h4,if_neg h5,show min k zs.size=k by omega,show min (k+1) zs.size=k+1 by omega,show j-k=(j-(k+1))+1 by omega,List.getElem?_cons_succ]
theorem qO(zs:Array Value)(cs:List Value)(h:zs.size=cs.length):List.foldl (fun(a:Array Value) (x:Value × Nat)=>a.setIfInBounds x.snd x.fst) zs cs.zipIdx=cs.toArray:=by
 rw[um cs 0 zs (by omega)];simp
/-- What Put gives where nothing was under the key. -/
def Ib(M F G:Nat->Prop)(w:World)(t:Nat)(rs:List Rec)(e:Ending)(w':World):Prop :=
 e = .returned (.bool true)/\∃M',At M' (fun b=>F b∨G b) w' t rs/\Kp M w w'/\∀b,M' b->M b∨w.heap.size<=b
theorem Ol{M F G:Nat->Prop}{w w3 w4 W7 w8 W:World}{t I:Nat}{rs:List Rec}{r:Rec}{cs xs:List Value}{kv vv kv' AP:Value}{ns:List Value}
 (h:At M F w t rs) (hr:aT G w cs r) (hG:∀b,G b->b<w.heap.size/\¬M b) (m1:∀b,kv.ownBlock=some b->M b) (m2:∀b,vv.ownBlock=some b->M b) (hv:iq F w rs xs)
 (kpA:Kp M w W) (hW3:w.heap.size<=w3.heap.size) (hW7:w.heap.size<=W7.heap.size) (hP:Sp.put Rec.path rs r=rs.take I++r :: rs.drop I) (hI:I<=rs.length) (hrise:Sp.bf Rec.path (Sp.put Rec.path rs r))
 (bx:Bx W t #[kv',AP] 174)
 (o1:W.ownsRow 0 9 1 kv' (rs.length+1) ((rs.map fun r=>Value.string r.path).take (I*1)++([.string r.path]++(rs.map fun r=>Value.string r.path).drop (I*1))))
 (o2:W.ownsRow 0 31 39 AP (rs.length+1) (xs.take (I*39)++(cs++xs.drop (I*39))))
 (Xj:∀b,kv'.ownBlock=some b->kv.ownBlock=some b∨w3.heap.size<=b) (Om:∀b,AP.ownBlock=some b->vv.ownBlock=some b∨W7.heap.size<=b) :
 Ib M F G w t (Sp.put Rec.path rs r) (.returned (.bool true)) W:=by
 have hl:(Sp.put Rec.path rs r).length=rs.length+1:=Sp.jM _ _;have vr:=((hv.ag (Ag.bg kpA fun k _ hk hm=>h.uQ k hm hk)).sub (F':=fun b=>F b∨G b) (fun k _ hk=>.inl hk)).insert ((hr.ag (Ag.bg kpA fun k _ hk hm=>(hG k hk).2 hm)).sub (S':=fun b=>F b∨G b) (fun k _ hk=>.inr hk)) I;rw[←hP]at vr;refine⟨rfl,fun b=>b=t∨kv'.ownBlock=some b∨AP.ownBlock=some b,⟨⟨kv',AP,_,bx,?_,?_,vr,fun b hb=>.inr (.inl hb),fun b hb=>.inr (.inr hb)⟩,.inl rfl,?_,?_,?_,hrise⟩,kpA,?_⟩
 ·rw[hl,hP];have e:(rs.take I++r :: rs.drop I).map (fun r=>Value.string r.path)=(rs.map fun r=>Value.string r.path).take (I*1)++([.string r.path]++(rs.map fun r=>Value.string r.path).drop (I*1)):=(by simp[List.map_take,List.map_drop]);rw[e];exact o1
 ·rw[hl];exact o2
 ·rintro b (rfl|hb|hb) (hf|hg)
  ·exact h.uQ _ h.mt hf
  ·exact(hG _ hg).2 h.mt
  ·rcases Xj b hb with h1|h1
   ·exact h.uQ _ (m1 b h1) hf
   ·have:=h.uC b hf;omega
  ·rcases Xj b hb with h1|h1
   ·exact(hG _ hg).2 (m1 b h1)
   ·have:=(hG _ hg).1;omega
  ·rcases Om b hb with h1|h1
   ·exact h.uQ _ (m2 b h1) hf
   ·have:=h.uC b hf;omega
  ·rcases Om b hb with h1|h1
   ·exact(hG _ hg).2 (m2 b h1)
   ·have:=(hG _ hg).1;omega
 ·rintro b (rfl|hb|hb)
  ·exact bx.lt
  ·exact kN o1 b hb
  ·exact kN o2 b hb
 ·rintro b (hf|hg)
  ·have:=h.uC b hf;have:=kpA.size;omega
  ·have:=(hG _ hg).1;have:=kpA.size;omega
 ·rintro b (rfl|hb|hb)
  ·exact .inl h.mt
  ·rcases Xj b hb with h1|h1
   ·exact .inl (m1 b h1)
   ·exact .inr (by omega)
  ·rcases Om b hb with h1|h1
   ·exact .inl (m2 b h1)
   ·exact .inr (by omega)
set_option maxRecDepth 20000 in
theorem zdj(M F G:Nat->Prop)(t:Nat)(rs:List Rec)(r:Rec)(cs:List Value)(w:World)(h:At M F w t rs)(hr:aT G w cs r)(hG:∀b,G b->b<w.heap.size/\¬M b)(hg:Sp.get Rec.path rs r.path=none)(hn:rs.length<=1073741824) :
 Calls Tryz.prog 79 #[.pointer (some ⟨t,0,none⟩),.string r.path,.agg cs.toArray] w (Ib M F G w t (Sp.put Rec.path rs r)):=by
 have HAT:=yH h;have HG:=yH hG;have hcl:=hr.length;have HP:=yH (show Sp.put Rec.path rs r=rs.take (Sp.place Rec.path rs r.path)++r :: rs.drop (Sp.place Rec.path rs r.path)from rfl);have Ic:=yH (Sp.pI h.rise hg);have HLEN:=yH (Sp.jM (key:=Rec.path) rs r);obtain⟨⟨kv,vv,xs,b0,o1,o2,hv,m1,m2⟩,mt,uQ,lt,uC,rise⟩:=h;have hh:aJ.has rs r.path=false:=(by unfold aJ.has;rw[hg];rfl);obtain⟨p,hp⟩:∃p,r.path=p:=⟨_,rfl⟩;have hsc:=fun w1 h1=>vk kv rs r.path w1 h1 rise (by omega)
 rw[hh]at hsc;rw[hp]at hsc HP ⊢;have Oo:=Sp.qC Rec.path rs p;obtain⟨I,hI⟩:∃I,Sp.place Rec.path rs p=I:=⟨_,rfl⟩;rw[hI]at hsc HP Oo;have c0:∀o,(w.alloc o).cell? ⟨t,0,none⟩=some kv:=fun o=>Lib.cell?_alloc_some o (b0.cell 0)
 have HR:=yH hr;have Jw:=yH o1;have o9:=yH o2;have HV:=yH hv;have B0:=yH b0;have xI:=yH hcl;clear hh hI hg hr o1 o2 hv b0 rise
 go_enter Tryz.func79,Tryz.ntmps79
 go_wp2_with fail;refine ae fun w1 hw1=>?_
 obtain⟨b1,x1⟩:=af hw1;clear hw1 c0;refine(hsc w1 (Copy.own_below Jw.out b1)).mono ?_;rintro e w2 ⟨rfl,q,rfl⟩;clear hsc;have c0:w1.cell? ⟨t,0,none⟩=some kv:=(B0.out.below b1).cell 0
 go_wp2_with fail;refine ae fun w3 hw3=>?_
 obtain⟨b3,x3⟩:=af hw3;clear hw3;have b3':Below w1.heap.size w1 w3:=(Dn.drewN w1 q).below.trans b3;have B3:Below w.heap.size w w3:=b1.trans (b3'.mono b1.size);have z1:=(World.block_lt_of_cell? w1 _ (x1.cell 0 |>.trans (by rw[Array.getElem?_eq_getElem (by rw[List.size_toArray,xI.out];omega)])));have X1:=yH (x1.below b3');have B03:=yH (B0.out.below B3);have zdk:kv.ownBlock≠some w1.heap.size:=fun e=>by have:=kN Jw.out _ e;have:=b1.size;omega
 refine(Xg kv rs.length I _ p w3 w1.heap.size (Copy.own_below Jw.out B3) x3 zdk Oo (by omega) (by intro u hu;obtain⟨y,_,rfl⟩:=List.mem_map.1 hu;rfl)).mono ?_;rintro e w4 ⟨kv',rfl,hown4,PK,RN⟩;obtain⟨ka,kc,zdl⟩:∃a c,kv' = .slice a (rs.length+1) c:=by
  rcases hown4.2 with⟨h,h0⟩|⟨g,cp,cur,h,_⟩
  ·omega
  ·exact⟨_,_,h⟩
 subst zdl;have HO4:=yH hown4;have m3:∀b,M b->b<w3.heap.size:=fun b hb=>by have:=lt b hb;have:=B3.size;omega
 have t4:Bx w4 t #[kv,vv] 174:=B03.out.kp PK (fun e=>dw (Copy.own_below Jw.out B3) B03.out (by decide) e);have c4:w4.cell? ⟨t,0,none⟩=some kv:=t4.cell 0;have f4:=t4.frozen 0;have T4:=yH t4;clear x1 x3 c0 hown4 t4
 go_wp2_with fail;obtain⟨W5,Jy⟩:∃W,w4.setCell ⟨t,0,none⟩ (.slice ka (rs.length+1) kc)=W:=⟨_,rfl⟩;rw[Jy];have T5:Bx W5 t #[.slice ka (rs.length+1) kc,vv] 174:=by
  have:=T4.out.set 0 (.slice ka (rs.length+1) kc);rw[Jy]at this
  simpa using this
 have zbd:Kp (fun b=>b=t) w4 W5:=(by rw[←Jy];exact(Kp.refl _ w4).setCell _ _ (fun _=>rfl));have GN:Kp (fun b=>b=t∨kv.ownBlock=some b) w3 W5:=PK.trans zbd (fun i _ h=>.inr h) (fun i _ h=>.inl h);clear Jy;have tl:t<w.heap.size:=lt t mt;have X5:Bx W5 w.heap.size cs.toArray 31:=X1.out.kp GN (fun h=>by
  rcases h with h|h
  ·omega
  ·have:=kN Jw.out _ h;omega)
 have HO5:=yH (aN HO4.out zbd (fun b hb e=>dw HO4.out T4.out (by decide) (by rw[hb,e])));have Xk:=Copy.own_below o9.out B3;have J8:=yH (aN Xk GN (fun b hb h=>by
  rcases h with rfl|h
  ·exact dw Xk B03.out (by decide) hb
  ·exact kZ Jw.out o9.out (by decide) b h hb))
 have t1:W5.cell? ⟨t,1,none⟩=some vv:=T5.cell 1;have r5:W5.drew.rangeAt w.heap.size 0 cs:=(by have:=X5.range;simpa using this);have HT5:=yH T5;have HX5:=yH X5;clear T5 X5 Xk;have hu2:=Tryz.underlying31;have hi2:(Tryz.prog.info? 31).map (·.size)=some cs.length:=(by rw[xI.out];kernel_rfl);refine wp_region_held_drew (S:=fun w'=>w'.rangeAt w.heap.size 0 cs) (by kernel_rfl) r5 (fun hHeld=>?_);refine yT 0 ?_;refine yT 1 ?_;refine yT 2 ?_;refine yT 3 ?_;refine yT 5 ?_;refine' wpAnyH_take (i:=6) (v:=_) rfl (by kernel_rfl) (by kernel_rfl) (by kernel_rfl) (fun _ _ _ h=>h) (yieldsIf_load_mid (by rfl) _ _ rfl _ _ rfl _ _ ?hS ?hu ?hd ?hi) (by assumption) ?rest
 case hS=>(intro w hSw;exact hSw)
 case hu=>exact hu2
 case hd=>rfl
 case hi=>exact hi2
 simp only[Act.put,yP];have r7:(W5.alloc (.cells cs.toArray 31)).drew.rangeAt w.heap.size 0 cs:=World.rangeAt_alloc (w:=W5) r5 (.cells cs.toArray 31);have t7:(W5.alloc (.cells cs.toArray 31)).drew.cell? ⟨t,1,none⟩=some vv:=Lib.cell?_alloc_some (W:=W5) _ t1;have x7:Bx (W5.alloc (.cells cs.toArray 31)).drew W5.heap.size cs.toArray 31:=Bx.new W5 cs.toArray 31;have Ku:Below W5.heap.size W5 (W5.alloc (.cells cs.toArray 31)).drew:=((Below.refl _ W5).alloc (Nat.le_refl _) _).drew;have zdm:vv.ownBlock≠some W5.heap.size:=fun e=>by have:=kN J8.out _ e;omega
 have hins:=Xh vv rs.length I xs cs (W5.alloc (.cells cs.toArray 31)).drew W5.heap.size xI.out (Copy.own_below J8.out Ku) x7 zdm Oo (by omega) HV.out.one (dX HR.out);have HT7:=yH (HT5.out.below Ku);have HX7:=yH (HX5.out.below Ku);have HO7:=yH (Copy.own_below HO5.out Ku);have zbe:=yH hins;clear x7 hins;have hfold:=fun(zs:Array Value) (hz:zs.size=39)=>qO zs cs (hz.trans xI.out.symm)
 refine wpAnyH_ready (rs:=[4,7]) (by kernel_rfl) (by simp) ?_;refine AllReadyH.cons rfl (fun K hK=>?_) (AllReadyH.cons rfl (fun K hK=>?_) AllReadyH.nil)
 ·go_simp;refine hK.out _ _ r5 (fun hHeld=>?_);clear hK K;refine yR 7 (fun K hK=>?_)
  go_simp;refine hK.out _ _ r7 (fun hHeld=>?_);clear hK K
  try simp only[Act.put,yP]
  refine yR 8 (fun K hK=>?_)
  go_simp;refine zbe.out.mono ?_;rintro e w8 ⟨AP,rfl,aV,Ce,Xl⟩;obtain⟨va,vc,Xm⟩:∃a c,AP = .slice a (rs.length+1) c:=by
   rcases aV.2 with⟨h,h0⟩|⟨g,cp,cur,h,_⟩
   ·omega
   ·exact⟨_,_,h⟩
  subst Xm;have tv7:vv.ownBlock≠some t:=dw (Copy.own_below J8.out Ku) HT7.out (by decide);have xv7:vv.ownBlock≠some w.heap.size:=fun e=>by have:=kN o9.out _ e;omega
  have T8:=HT7.out.kp Ce tv7;have X8:=HX7.out.kp Ce xv7;have r8:w8.rangeAt w.heap.size 0 cs:=(by have:=X8.range;simpa using this);have t8:w8.cell? ⟨t,1,none⟩=some vv:=T8.cell 1;have f8:=T8.frozen 1;have r9:(w8.setCell ⟨t,1,none⟩ (.slice va (rs.length+1) vc)).rangeAt w.heap.size 0 cs:=(by have:=(X8.aH (p:=⟨t,1,none⟩) (.slice va (rs.length+1) vc) (by simp;omega)).range;simpa using this);refine hK.out _ _ r8 (fun hHeld=>?_);clear hK K
  try simp only[Act.put,yP]
  refine yT 9 ?_;refine yT 10 ?_;refine yR 11 (fun K hK=>?_)
  go_simp;refine hK.out _ _ r9 (fun hHeld=>?_);clear hK K;refine wpAnyH_done (by kernel_rfl) ?_ _;clear hHeld r9 r8 hfold r5 r7 t1 t7 t8 f8
  go_wp2_with fail
  go_ret;subst hp;have kpT:Kp (fun b=>b=t) w8 (w8.setCell ⟨t,1,none⟩ (.slice va (rs.length+1) vc)):=(Kp.refl _ w8).setCell _ _ (fun _=>rfl);have kA:Kp M w (w8.setCell ⟨t,1,none⟩ (.slice va (rs.length+1) vc)) :=
   ((((Kp.of_below B3:Kp M w w3).trans GN (fun _ _ h=>h) (fun i _ h=>h.elim (fun e=>by rw[e];exact mt) (m1 i))).trans (Kp.of_below Ku:Kp M W5 _) (fun _ _ h=>h) (fun _ _ h=>h)).trans Ce (fun _ _ h=>h) (fun i _ h=>m2 i h)).setCell ⟨t,1,none⟩ _ (fun _=>mt)
  have o27:=Copy.own_below J8.out Ku;have o18:=aN HO7.out Ce (fun b hb=>kZ HO7.out o27 (by decide) b hb);exact Ol (w3:=w3) (w4:=w4) (W7:=(W5.alloc (.cells cs.toArray 31)).drew) (w8:=w8) (kv:=kv) (vv:=vv) (I:=I) (ns:=[]) HAT.out HR.out HG.out m1 m2 HV.out kA B3.size (Nat.le_trans B3.size (Nat.le_trans GN.size Ku.size)) HP.out Oo Ic.out
   (by have:=T8.set 1 (.slice va (rs.length+1) vc);simpa using this)
   (aN o18 kpT (fun b hb e=>dw o18 T8 (by decide) (by rw[hb,e])))
   (aN aV kpT (fun b hb e=>dw aV T8 (by decide) (by rw[hb,e]))) RN Xl
 ·go_simp;refine hK.out _ _ r7 (fun hHeld=>?_);clear hK K;refine yR 4 (fun K hK=>?_)
  go_simp;refine hK.out _ _ r7 (fun hHeld=>?_);clear hK K
  try simp only[Act.put,yP]
  refine yR 8 (fun K hK=>?_)
  go_simp;refine zbe.out.mono ?_;rintro e w8 ⟨AP,rfl,aV,Ce,Xl⟩;obtain⟨va,vc,Xm⟩:∃a c,AP = .slice a (rs.length+1) c:=by
   rcases aV.2 with⟨h,h0⟩|⟨g,cp,cur,h,_⟩
   ·omega
   ·exact⟨_,_,h⟩
  subst Xm;have tv7:vv.ownBlock≠some t:=dw (Copy.own_below J8.out Ku) HT7.out (by decide);have xv7:vv.ownBlock≠some w.heap.size:=fun e=>by have:=kN o9.out _ e;omega
  have T8:=HT7.out.kp Ce tv7;have X8:=HX7.out.kp Ce xv7;have r8:w8.rangeAt w.heap.size 0 cs:=(by have:=X8.range;simpa using this);have t8:w8.cell? ⟨t,1,none⟩=some vv:=T8.cell 1;have f8:=T8.frozen 1;have r9:(w8.setCell ⟨t,1,none⟩ (.slice va (rs.length+1) vc)).rangeAt w.heap.size 0 cs:=(by have:=(X8.aH (p:=⟨t,1,none⟩) (.slice va (rs.length+1) vc) (by simp;omega)).range;simpa using this);refine hK.out _ _ r8 (fun hHeld=>?_);clear hK K
  try simp only[Act.put,yP]
  refine yT 9 ?_;refine yT 10 ?_;refine yR 11 (fun K hK=>?_)
  go_simp;refine hK.out _ _ r9 (fun hHeld=>?_);clear hK K;refine wpAnyH_done (by kernel_rfl) ?_ _;clear hHeld r9 r8 hfold r5 r7 t1 t7 t8 f8
  go_wp2_with fail
  go_ret;subst hp;have kpT:Kp (fun b=>b=t) w8 (w8.setCell ⟨t,1,none⟩ (.slice va (rs.length+1) vc)):=(Kp.refl _ w8).setCell _ _ (fun _=>rfl);have kA:Kp M w (w8.setCell ⟨t,1,none⟩ (.slice va (rs.length+1) vc)) :=
   ((((Kp.of_below B3:Kp M w w3).trans GN (fun _ _ h=>h) (fun i _ h=>h.elim (fun e=>by rw[e];exact mt) (m1 i))).trans (Kp.of_below Ku:Kp M W5 _) (fun _ _ h=>h) (fun _ _ h=>h)).trans Ce (fun _ _ h=>h) (fun i _ h=>m2 i h)).setCell ⟨t,1,none⟩ _ (fun _=>mt)
  have o27:=Copy.own_below J8.out Ku;have o18:=aN HO7.out Ce (fun b hb=>kZ HO7.out o27 (by decide) b hb);exact Ol (w3:=w3) (w4:=w4) (W7:=(W5.alloc (.cells cs.toArray 31)).drew) (w8:=w8) (kv:=kv) (vv:=vv) (I:=I) (ns:=[]) HAT.out HR.out HG.out m1 m2 HV.out kA B3.size (Nat.le_trans B3.size (Nat.le_trans GN.size Ku.size)) HP.out Oo Ic.out
   (by have:=T8.set 1 (.slice va (rs.length+1) vc);simpa using this)
   (aN o18 kpT (fun b hb e=>dw o18 T8 (by decide) (by rw[hb,e])))
   (aN aV kpT (fun b hb e=>dw aV T8 (by decide) (by rw[hb,e]))) RN Xl
end Tab

namespace Tab
open Go.RowKit Mem Tr
open Go.Proofs.YtmmmghpimdfleaaGreatDoor.Own
theorem RP(w:World):Calls Tryz.prog 98 #[] w fun e w'=>e = .returned (.pointer (some ⟨w.heap.size,0,none⟩))/\At (fun b=>b=w.heap.size) (fun _=>False) w' w.heap.size []/\Below w.heap.size w w'/\w'.heap.size=w.heap.size+1:=by
 go_enter Tryz.func98,Tryz.ntmps98
 go_wp2_with fail
 go_ret;refine⟨rfl,{ box:=⟨.slice none 0 0,.slice none 0 0,[],Bx.new w _ _,World.ownsRow_nil _ _ _ _,World.ownsRow_nil _ _ _ _,rfl,?_,?_⟩,mt:=rfl,uQ:=fun _ _ h=>h,lt:=?_,uC:=fun _ h=>h.elim,rise:=List.Pairwise.nil },(Below.refl _ w).alloc (Nat.le_refl _) _,by simp⟩
 ·intro b hb;cases hb
 ·intro b hb;cases hb
 ·rintro b rfl;simp
theorem aO{w:World}{B k n:Nat}{t:TypeId}{v:Value}{xs:List Value}(h:w.ownsRow B t k v n xs):∃a c,v = .slice a n c:=by
 rcases h.2 with⟨h1,h0⟩|⟨g,cp,cur,h1,_⟩
 ·exact⟨none,0,by rw[h1,h0]⟩
 ·exact⟨_,_,h1⟩
theorem Xn(M F:Nat->Prop)(t:Nat)(rs:List Rec)(w:World)(h:At M F w t rs) :
 Calls Tryz.prog 80 #[.pointer (some ⟨t,0,none⟩)] w fun e w'=>e = .returned (.int .i64 (rs.length:Nat))/\w'=w:=by
 obtain⟨⟨kv,vv,xs,b0,o1,o2,hv,m1,m2⟩,mt,uQ,lt,uC,rise⟩:=h;obtain⟨a,c,rfl⟩:=aO o1;have c0:w.cell? ⟨t,0,none⟩=some (.slice a rs.length c):=b0.cell 0;clear b0 o1 o2 hv
 go_enter Tryz.func80,Tryz.ntmps80
 go_wp2_with fail
 go_ret;exact⟨rfl,rfl⟩
theorem zbf(M F:Nat->Prop)(t:Nat)(rs:List Rec)(w:World)(h:At M F w t rs)(hn:rs.length<=1073741824) :
 Calls Tryz.prog 82 #[.pointer (some ⟨t,0,none⟩)] w (iO w rs.length 1 (rs.map fun r=>.string r.path) 9):=by
 obtain⟨⟨kv,vv,xs,b0,o1,o2,hv,m1,m2⟩,mt,uQ,lt,uC,rise⟩:=h;have hC:=cloneStr kv rs.length _ w o1 (by intro u hu;obtain⟨y,_,rfl⟩:=List.mem_map.1 hu;rfl) (by omega);have c0:w.cell? ⟨t,0,none⟩=some kv:=b0.cell 0;clear b0 o1 o2 hv
 go_enter Tryz.func82,Tryz.ntmps82
 go_wp2_with fail;refine hC.mono ?_;rintro e w1 ⟨v',rfl,ho,hb⟩
 go_wp2_with fail
 go_ret;exact⟨_,rfl,ho,hb⟩
theorem Ud(t n:Nat)(kv vv:Value)(ks flat:List Value)(w:World)(b0:Bx w t #[kv,vv] 174)(o1:w.ownsRow 0 9 1 kv n ks)(o2:w.ownsRow 0 31 39 vv n flat)(h1:∀v∈ks,v.oneCell'=true)(h2:∀v∈flat,v.oneCell'=true)(hn:n<=1073741824) :
 Calls Tryz.prog 76 #[.pointer (some ⟨t,0,none⟩)] w fun e w'=>∃t' kv' AP,e = .returned (.pointer (some ⟨t',0,none⟩))/\Bx w' t' #[kv',AP] 174/\w'.ownsRow w.heap.size 9 1 kv' n ks/\w'.ownsRow w.heap.size 31 39 AP n flat/\w.heap.size<=t'/\Below w.heap.size w w':=by
 have hC:=cloneStr kv n _ w.drew o1 h1 (by omega);have hD:=fun w1 (hb:Below w.heap.size w w1)=>Oj vv n flat w1 (Copy.own_below o2 hb) h2 (by omega)
 have c0:w.cell? ⟨t,0,none⟩=some kv:=b0.cell 0;have c1:w.cell? ⟨t,1,none⟩=some vv:=b0.cell 1;have hk:∀w',Below w.heap.size w w'->w'.cell? ⟨t,0,none⟩=some kv/\w'.cell? ⟨t,1,none⟩=some vv:=fun w' hb=>⟨(b0.below hb).cell 0,(b0.below hb).cell 1⟩
 clear b0 o1 o2
 go_enter Tryz.func76,Tryz.ntmps76
 go_wp2_with fail
 go_region_held3 (fun w'=>w'.cell? ⟨t,0,none⟩=some kv/\w'.cell? ⟨t,1,none⟩=some vv) (first|assumption|exact hS|go_keep) (first
  | (go_at_call 87;refine hC.mono ?_;rintro e w1 ⟨kv',rfl,hown1,bb1⟩;obtain⟨a1,uz,rfl⟩:=aO hown1;have b1:Below w.heap.size w w1:=Copy.ax bb1;have hS:=hk w1 b1)
  | (go_at_call 119;refine(hD _ b1).mono ?_;rintro e w2 ⟨AP,rfl,hown2,b2⟩;obtain⟨a2,xE,rfl⟩:=aO hown2;have hS:=hk w2 (b1.trans (b2.mono b1.size))))
 go_wp2_with fail
 go_ret;have B2:Below w.heap.size w w2:=b1.trans (b2.mono b1.size);have bn:=Bx.new w2 #[.slice a1 n uz,.slice a2 n xE] 174;have B3:Below w2.heap.size w2 (w2.alloc (.cells #[.slice a1 n uz,.slice a2 n xE] 174)):=(Below.refl _ w2).alloc (Nat.le_refl _) _;have Ue:=Copy.own_below (Copy.own_below hown1 b2) B3;have RQ:=Copy.own_below hown2 B3;have zdn:(w2.alloc (.cells #[.slice a1 n uz,.slice a2 n xE] 174)).ownsRow w.heap.size 31 39 (.slice a2 n xE) n flat:=⟨RQ.1,RQ.2.imp id (fun⟨g,cap,cur,hv,hb,r⟩=>⟨g,cap,cur,hv,Nat.le_trans b1.size hb,r⟩)⟩;exact⟨w2.heap.size,_,_,rfl,bn,Ue,zdn,Nat.le_trans b1.size b2.size,B2.trans (B3.mono B2.size)⟩
/-- What Fork gives. -/
def Oq(F:Nat->Prop)(w:World)(rs:List Rec)(e:Ending)(w':World):Prop :=
 ∃t' M',e = .returned (.pointer (some ⟨t',0,none⟩))/\At M' F w' t' rs/\(∀b,M' b->w.heap.size<=b)/\Below w.heap.size w w'
theorem NC(M F:Nat->Prop)(t:Nat)(rs:List Rec)(w:World)(h:At M F w t rs)(hn:rs.length<=1073741824) :
 Calls Tryz.prog 76 #[.pointer (some ⟨t,0,none⟩)] w (Oq F w rs):=by
 obtain⟨⟨kv,vv,xs,b0,o1,o2,hv,m1,m2⟩,mt,uQ,lt,uC,rise⟩:=h;refine(Ud t rs.length kv vv _ xs w b0 o1 o2 (by intro u hu;obtain⟨y,_,rfl⟩:=List.mem_map.1 hu;rfl) hv.one hn).mono ?_;rintro e w' ⟨t',kv',AP,rfl,bn,Ue,RQ,ht',hB⟩;have hge:∀b,(b=t'∨kv'.ownBlock=some b∨AP.ownBlock=some b)->w.heap.size<=b:=by
  rintro b (rfl|hb|hb)
  ·exact ht'
  ·exact(Ue.lt b hb).1
  ·exact(RQ.lt b hb).1
 refine⟨t',fun b=>b=t'∨kv'.ownBlock=some b∨AP.ownBlock=some b,rfl,{ box:=⟨_,_,xs,bn,uO Ue,uO RQ,hv.ag (Ag.of_below hB),fun b hb=>.inr (.inl hb),fun b hb=>.inr (.inr hb)⟩,mt:=.inl rfl,uQ:=?_,lt:=?_,uC:=?_,rise:=rise },hge,hB⟩
 ·intro b hb hf;have:=hge b hb;have:=uC b hf;omega
 ·rintro b (rfl|hb|hb)
  ·exact bn.lt
  ·exact kN Ue b hb
  ·exact kN RQ b hb
 ·intro b hf;have:=uC b hf;have:=hB.size;omega
end Tab
end Go.Proofs.YtmmmghpimdfleaaGreatDoor
