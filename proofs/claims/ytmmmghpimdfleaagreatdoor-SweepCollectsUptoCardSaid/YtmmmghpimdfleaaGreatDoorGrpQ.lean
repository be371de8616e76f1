/-
  Store.Insert.
  Store.Add.
-/
import Derived.Test.YtmmmghpimdfleaaGreatDoorTk
import Derived.Test.YtmmmghpimdfleaaGreatDoorGrpP
set_option linter.unusedVariables false
set_option maxHeartbeats 8000000
set_option linter.unusedSimpArgs false
namespace Go.Proofs.YtmmmghpimdfleaaGreatDoor
namespace St
open Go.RowKit Mem Tr
open Go.Proofs.YtmmmghpimdfleaaGreatDoor.Own
/-- What an insertion answers, and what the store holds then. -/
def xe(M F:Nat->Prop)(w:World)(s:Nat)(n:Int)(rs:List Rec)(e:Ending)(w':World):Prop :=
 e = .returned (.int .i64 n)/\∃M' F',Is M' F' w' s rs/\Kp M w w'/\(∀b,M' b->M b∨w.heap.size<=b)/\∀b,F' b->F b∨w.heap.size<=b
theorem gU{M F:Nat->Prop}{w w':World}{s:Nat}{n:Int}{rs:List Rec}(h:Is M F w s rs)(hb:Below w.heap.size w w'):xe M F w s n rs (.returned (.int .i64 n)) w' :=
 ⟨rfl,M,F,h.below hb,Kp.of_below hb,fun _ h=>.inl h,fun _ h=>.inl h⟩
theorem fP{S:Nat->Prop}{w:World}{v:Value}{l:List ByteArray}(h:Strs S w v l)(hn:0<l.length):∃b off cap,v = .slice (some ⟨b,off,none⟩) l.length cap/\∀j (hj:j<l.length),w.cell? ⟨b,off+j,none⟩=some (.string l[j]):=by
 obtain⟨ao,cap,rfl,hl,hm,hk⟩:=h;rcases hk with rfl|⟨b,o,rfl,_,e3⟩
 ·simp at hn
 ·exact⟨b,o,cap,rfl,e3⟩
/-- Get of a table, in one form. -/
def Dw(F:Nat->Prop)(w:World)(rs:List Rec)(p:ByteArray)(e:Ending)(w':World):Prop :=
 ∃(oc:List Value),oc.length=39/\(∀v∈oc,v.oneCell'=true)/\e = .returned (.tuple #[.agg oc.toArray,.bool (aJ.has rs p)])/\Below w.heap.size w w'/\∀r,Sp.get Rec.path rs p=some r->aT F w' oc r
theorem Ug(M F:Nat->Prop)(t:Nat)(rs:List Rec)(p:ByteArray)(w:World)(h:Tab.At M F w t rs)(hn:rs.length<=4294967296) :
 Calls Tryz.prog 72 #[.pointer (some ⟨t,0,none⟩),.string p] w (Dw F w rs p):=by
 refine(Tab.CY M F t rs p w h hn).mono ?_;rintro e w' ⟨hb,hm⟩;unfold Dw aJ.has;cases hg:Sp.get Rec.path rs p with
 | none =>
  rw[hg]at hm;exact⟨_,rfl,by intro v hv;simp only[List.mem_append,List.mem_cons,List.not_mem_nil,or_false,List.mem_replicate]at hv;rcases hv with(rfl|rfl|rfl|rfl|rfl|rfl)|(⟨_,rfl⟩|rfl)<;>rfl,hm,hb,fun r h=>by cases h⟩
 | some r =>
  rw[hg]at hm;obtain⟨cs,rfl,hrec⟩:=hm;exact⟨cs,hrec.length,Tab.dX hrec,rfl,hb,fun r' h=>by cases h;exact hrec⟩
set_option maxRecDepth 20000 in
theorem insertC(rc st:Nat->BitVec 32)(M F S:Nat->Prop)(s:Nat)(rs:List Rec)(r:Rec)(cs:List Value)(w:World)(h:Is M F w s rs)(hg:Sum.Gl rc st w)(hr:aT S w cs r)(hS:∀b,S b->b<w.heap.size)
 (hgood:aJ.Good rc st rs) (hb:r.bulk<=4194304) (hn:rs.length<=1073741823) :
 Calls Tryz.prog 27 #[.pointer (some ⟨s,0,none⟩),.agg cs.toArray] w (xe M F w s (aJ.eY rc st rs r) (aJ.fM rc st rs r)):=by
 have hV:=fun w1 hb1=>vX rc st S r cs w1 (hg.below hb1) (hr.below hb1) (fun b hbb=>Nat.lt_of_lt_of_le (hS b hbb) hb1.size) hb
 have HIS:=yH h;have nC:=yH hr;have xI:=yH hr.length;have HB:=yH hb;have Ov:=yH hgood;have HS:=yH hS;obtain⟨kv,rv,hcs,hh,hk,hrr⟩:=hr;have HR:=yH hrr;have HK:=yH hk;obtain⟨ao,cap,rfl,_,_,_⟩:=hk;obtain⟨dL,cap2,rfl,_,_,_⟩:=hrr;have wG:=yH hcs.symm;have F1:=iV (w:=w) (z:=cs.toArray) (t:=31) rfl;have r0:(w.alloc (.cells cs.toArray 31)).rangeAt w.heap.size 0 cs:=(by have:=F1.2.1.range;simpa using this);clear hcs hb h hg hS hgood F1
 go_enter Tryz.func27,Tryz.ntmps27
 go_wp2_with (refine wpList_load_mid rfl 31 _ (by rfl) w.heap.size 0 (by rfl) cs _ r0 Tryz.underlying31 rfl (by rw[xI.out];kernel_rfl) ?_)
 refine ae fun w1 hw1=>?_
 obtain⟨b1,x1⟩:=af hw1;have X1:=yH (show RB w1 w.heap.size r (.slice ao r.tree.kids.len cap) (.slice dL r.refs.length cap2)from⟨by rw[wG.out];exact x1,hh⟩);clear hw1 x1 r0;refine(hV w1 b1).mono ?_;rintro e w2 ⟨rfl,b2⟩;clear hV;have B2:=b1.trans (b2.mono b1.size);have X2:=yH (X1.out.below b2);obtain⟨v,hv⟩:∃v,aJ.bP rc st r=v:=⟨_,rfl⟩;rw[hv];have HV:=yH hv;clear hv;by_cases h1:v=0
 case neg =>
  have t1:(v != 0)=true:=(by simpa using h1);have e1:aJ.eY rc st rs r=v:=(by unfold aJ.eY;rw[HV.out,if_neg h1]);have e2:aJ.fM rc st rs r=rs:=(by unfold aJ.fM;rw[e1,if_neg h1]);have qo:=yH e1;have HE2:=yH e2;clear h1 e1 e2
  go_wp2_with fail
  go_ret;rw[qo.out,HE2.out];exact gU HIS.out B2
 subst h1;obtain⟨n,hnn⟩:∃n,r.refs.length=n:=⟨_,rfl⟩;have hnb:n<=4194304:=(by have:=dI r.refs;have:=HB.out;unfold Rec.bulk at this;omega);rw[hnn]at HR X1 X2 wG;have HN:=yH hnn;have g5:=X2.out.c5;clear hnn
 go_wp2_with fail
 go_loopw [7,18] (fun _ i wr=>∃k:Nat,k<=n/\i = .int .i64 k/\Hid (∀j (h:j<r.refs.length),j<k->r.refs[j]=r.path∨aJ.has rs r.refs[j]=true)/\Below w.heap.size w wr/\Below w1.heap.size w1 wr) (fun _ i _=>n-(intOf i).toNat)
 case atStart=>exact⟨0,Nat.zero_le _,rfl,yH (fun j _ hj=>absurd hj (Nat.not_lt_zero _)),B2,b2⟩
 case round =>
  obtain⟨k,hk,rfl,hall,br,bq⟩:=hrel;by_cases hlt:k<n
  ·obtain⟨rb,ro,wJ,nR,hcells⟩:=fP (HR.out.below br) (by rw[HN.out];omega);injection nR with ji gY jk;subst ji;clear gY jk;have hkl:k<r.refs.length:=(by rw[HN.out];exact hlt);have gk:=hcells k hkl;obtain⟨q,hq⟩:∃q,r.refs[k]=q:=⟨_,rfl⟩;rw[hq]at gk;have HQ:=yH hq;have e0:(0:Int)<=(k:Int):=Int.natCast_nonneg _;have e1:(k:Int)<(n:Int):=(by omega);have cpr:=(X1.out.below bq).c0;clear hcells hq;by_cases qN:q=r.path
   ·have tt:(q.toList==r.path.toList)=true:=(by rw[Eq.bytes_beq];exact decide_eq_true qN);have bF:=yH (show ∀j (h:j<r.refs.length),j<k+1->r.refs[j]=r.path∨aJ.has rs r.refs[j]=true from fun j h hj=>by
     by_cases hjk:j<k
     ·exact hall.out j h hjk
     ·obtain rfl:j=k:=(by omega);exact .inl (by rw[HQ.out];exact qN))
    clear qN
    go_wp2_with fail
    go_roundw
    case rel=>exact⟨k+1,by omega,by go_num,bF,br,bq⟩
    case measure=>simp[intOf];omega
   ·have tt:(q.toList==r.path.toList)=false:=(by rw[Eq.bytes_beq];exact decide_eq_false qN);have zbh:=vT M F s rs q wr (HIS.out.below br) (by omega);obtain⟨B,hBq⟩:∃B,aJ.has rs q=B:=⟨_,rfl⟩;rw[hBq]at zbh;have HBQ:=yH hBq;have HQP:=yH qN;clear hBq qN
    go_wp2_with fail;refine zbh.mono ?_;rintro e w3 ⟨rfl,b3⟩;have Yl:=br.trans (b3.mono br.size);cases B with
    | true =>
     have bF:=yH (show ∀j (h:j<r.refs.length),j<k+1->r.refs[j]=r.path∨aJ.has rs r.refs[j]=true from fun j h hj=>by
      by_cases hjk:j<k
      ·exact hall.out j h hjk
      ·obtain rfl:j=k:=(by omega);exact .inr (by rw[HQ.out];exact HBQ.out))
     go_wp2_with fail
     go_roundw
     case rel=>exact⟨k+1,by omega,by go_num,bF,Yl,bq.trans (b3.mono bq.size)⟩
     case measure=>simp[intOf];omega
    | false =>
     have hl:aJ.lacks rs r=true:=(by unfold aJ.lacks;rw[List.any_eq_true];exact⟨q,by rw[←HQ.out];exact List.getElem_mem _,by rw[decide_eq_true HQP.out,HBQ.out];rfl⟩);have qo:=yH (show aJ.eY rc st rs r=3 by unfold aJ.eY;rw[if_pos HV.out,hl,if_pos rfl]);have HE2:=yH (show aJ.fM rc st rs r=rs by unfold aJ.fM;rw[if_neg (by rw[qo.out];decide)]);clear hl
     go_wp2_with fail
     go_ret;rw[qo.out,HE2.out];exact gU HIS.out Yl
  ·obtain rfl:k=n:=(by omega);have hl0:aJ.lacks rs r=false:=by
    unfold aJ.lacks;rw[List.any_eq_false];intro q hq;obtain⟨j,hj,rfl⟩:=List.getElem_of_mem hq;rcases hall.out j hj (by rw[←HN.out];exact hj)with h|h
    ·simp[h]
    ·simp[h]
   have HL0:=yH hl0;clear hl0
   go_wp2_with fail;obtain⟨⟨t,bs,ha⟩,hso⟩:=HIS.out;have HBS:=yH bs;have HA:=yH ha;have hS3:∀w',Below wr.heap.size wr w'->w'.cell? ⟨s,0,none⟩=some (.pointer (some ⟨t,0,none⟩))/\w'.cell? ⟨w.heap.size,0,none⟩=some (.string r.path):=fun w' hb=>⟨(HBS.out.below (br.trans (hb.mono br.size))).cell 0,(X1.out.below (bq.trans (hb.mono bq.size))).c0⟩
   have hS0:=hS3 wr.drew (Below.refl _ wr).drew;have hget:=fun w3 hb=>Ug M F t rs r.path w3 (HA.out.below hb) (by omega)
   clear bs ha;refine wp_region_held_drew (S:=fun w'=>w'.cell? ⟨s,0,none⟩=some (.pointer (some ⟨t,0,none⟩))/\w'.cell? ⟨w.heap.size,0,none⟩=some (.string r.path)) (by kernel_rfl) hS0 (fun hHeld=>?_);refine yT 0 ?_;refine yT 1 ?_;refine yT 2 ?_;refine yT 3 ?_;refine yT 4 ?_;refine yT 5 ?_;refine yT 6 ?_;refine wpAnyH_ready (rs:=[7,11]) (by kernel_rfl) (by simp) ?_;refine AllReadyH.cons rfl (fun K hK=>?Ae) (AllReadyH.cons rfl (fun K hK=>?Af) AllReadyH.nil)
   case' Ae =>
    go_simp;refine(hget wr.drew (br.drew)).mono ?_;rintro e w3 ⟨oc,hol,hoo,rfl,b3,hrec⟩;have b3':=Copy.ax b3;refine hK.out _ _ (hS3 w3 b3') (fun hHeld=>?_);clear hK K;refine yT 8 ?_;refine yT 9 ?_;refine yT 10 ?_;refine yR 11 (fun K hK=>?_)
    go_simp
    change K _ (w3.alloc (.cells Ins.ah.cells 31))
    obtain⟨WN,Dx⟩:∃W,w3.alloc (.cells Ins.ah.cells 31)=W:=⟨_,rfl⟩;obtain⟨Xp,xN⟩:=af Dx;have bN:Below wr.heap.size wr WN:=b3'.trans (Xp.mono b3'.size);rw[Dx];refine hK.out _ _ (hS3 WN bN) (fun hHeld=>?_);have uo:∀r',Sp.get Rec.path rs r.path=some r'->aT F WN oc r':=fun r' h=>(hrec r' h).below Xp
    have Xq:wr.heap.size<=w3.heap.size:=b3'.size;obtain⟨nb,tC⟩:∃nb,w3.heap.size=nb:=⟨_,rfl⟩;rw[tC]at xN Xq ⊢;clear hK K tC Dx Xp hrec b3' b3
   case' Af =>
    go_simp
    change K _ (wr.alloc (.cells Ins.ah.cells 31)).drew
    obtain⟨w4,hw4⟩:∃W,(wr.alloc (.cells Ins.ah.cells 31)).drew=W:=⟨_,rfl⟩;have x4:Bx w4 wr.heap.size Ins.ah.cells 31:=(by rw[←hw4];exact Bx.new wr Ins.ah.cells 31);have b4:Below wr.heap.size wr w4:=(by rw[←hw4];exact((Below.refl _ wr).alloc (Nat.le_refl _) _).drew);rw[hw4];refine hK.out _ _ (hS3 w4 b4) (fun hHeld=>?_);obtain⟨nb,tC⟩:∃nb,wr.heap.size=nb:=⟨_,rfl⟩;rw[tC];clear hK K hw4;refine yR 7 (fun K hK=>?_)
    go_simp;refine(hget w4 (br.trans (b4.mono br.size))).mono ?_;rintro e WN ⟨oc,hol,hoo,rfl,b5,uo⟩;have bN:Below wr.heap.size wr WN:=b4.trans (b5.mono b4.size);refine hK.out _ _ (hS3 WN bN) (fun hHeld=>?_);clear hK K;refine yT 8 ?_;refine yT 9 ?_;refine yT 10 ?_;have xN:=x4.below b5;have Xq:wr.heap.size<=nb:=(by omega);rw[tC]at xN;clear tC x4 b4 b5
   all_goals
    refine yR 12 (fun K hK=>?_);rw[if_pos (by rfl)];refine wp_store_mid 31 _ _ (by rfl) nb 0 oc.toArray (by rfl) (by rfl) ?_ ?_ ?_ ?_
    ·exact xN.there oc.toArray.size (by rw[show oc.toArray.size=39 by simpa using hol];rfl)
    ·rw[List.size_toArray,hol];kernel_rfl
    ·exact all_oneCell_toArray hoo
    refine Mem.named ?_;intro W hW;have hW2:WN.setCells nb 0 oc=W:=hW;have bW:Below wr.heap.size wr W:=(by rw[←hW2];exact Tab.below_setCells Xq _ _ bN (Nat.le_refl _));have rW:W.rangeAt nb 0 oc:=(by rw[←hW2];exact World.rangeAt_setCells_same _ _ _ _ (xN.there _ (by rw[hol];rfl)));have kW:Kp (fun b=>b=nb) WN W:=(by rw[←hW2];exact aW (M:=fun b=>b=nb) (fun _=>rfl) _ _ (Kp.refl _ WN));have J5:=HA.out.uC;have brs:=br.size;have Uh:∀r',Sp.get Rec.path rs r.path=some r'->aT F W oc r':=fun r' h=>(uo r' h).ag (Ag.bg kW (fun q _ hq e=>by have:=J5 q hq;omega))
    refine hK.out _ _ (hS3 W bW) (fun hHeld=>?_);clear hK K hW uo J5 kW xN bN;refine yT 13 ?_;refine wpAnyH_done (by kernel_rfl) ?_ _;clear hHeld hS0 hget;have BW:Below w.heap.size w W:=br.trans (bW.mono br.size);have XW:=yH (X1.out.below (bq.trans (bW.mono bq.size)));have rB:=XW.out.range;rw[wG.out]at rB;have zdq:=yH Uh;clear Uh hS3;cases hB:aJ.has rs r.path with
    | true =>
     obtain⟨old,hold⟩:∃old,Sp.get Rec.path rs r.path=some old:=Option.isSome_iff_exists.1 hB;have hsame:=zbg F S old r oc cs W (zdq.out old hold) (nC.out.below BW) (Ov.out.bulk old (Sp.get_some hold).1);obtain⟨E,hE⟩:∃E,Jd old r=E:=⟨_,rfl⟩;rw[hE]at hsame;have qo:=yH (show aJ.eY rc st rs r=if E=true then 0 else 8 by
      unfold aJ.eY;rw[if_pos HV.out,HL0.out,if_neg (by decide),hold];rw[←hE];unfold Jd;simp only[decide_eq_true_eq])
     have HE2:=yH (show aJ.fM rc st rs r=rs by
      unfold aJ.fM;split
      ·rw[hold]
      ·rfl)
     clear hold hE
     go_wp2_with (first
      | (refine wpList_load_mid rfl 31 _ (by rfl) nb 0 (by rfl) oc _ rW Tryz.underlying31 rfl (by rw[hol];kernel_rfl) ?_)
      | (refine wpList_load_mid rfl 31 _ (by rfl) w.heap.size 0 (by rfl) cs _ rB Tryz.underlying31 rfl (by rw[xI.out];kernel_rfl) ?_))
     refine hsame.mono ?_;rintro e w9 ⟨rfl,b9⟩;have B9:=BW.trans (b9.mono BW.size);clear hsame;cases E with
     | true =>
      go_wp2_with fail
      go_ret;rw[qo.out,HE2.out];exact gU HIS.out B9
     | false =>
      go_wp2_with fail
      go_ret;rw[qo.out,HE2.out];exact gU HIS.out B9
    | false =>
     have hnone:Sp.get Rec.path rs r.path=none:=by
      unfold aJ.has at hB;cases hq:Sp.get Rec.path rs r.path with
      | none=>rfl
      | some x=>rw[hq]at hB;cases hB
     have qo:=yH (show aJ.eY rc st rs r=0 by
      unfold aJ.eY;rw[if_pos HV.out,HL0.out,if_neg (by decide),hnone])
     have HE2:=yH (show aJ.fM rc st rs r=Sp.put Rec.path rs r by
      unfold aJ.fM;rw[if_pos qo.out,hnone])
     have zbi:=yH hnone;clear hnone
     go_wp2_with fail;have hu2:=Tryz.underlying31;have hi2:(Tryz.prog.info? 31).map (·.size)=some cs.length:=(by rw[xI.out];kernel_rfl);have BSW:=yH (HBS.out.below BW);have hq0:W.drew.cell? ⟨s,0,none⟩=some (.pointer (some ⟨t,0,none⟩))/\W.drew.cell? ⟨w.heap.size,0,none⟩=some (.string r.path)/\W.drew.rangeAt w.heap.size 0 cs:=⟨BSW.out.cell 0,XW.out.c0,rB⟩;have hms:¬M s:=fun h=>HIS.out.uQ s h hso
     have hmb:¬M w.heap.size:=fun h=>by have:=HIS.out.lt _ (.inl h);omega
     clear rB rW;refine wp_region_held_drew (S:=fun w'=>w'.cell? ⟨s,0,none⟩=some (.pointer (some ⟨t,0,none⟩))/\w'.cell? ⟨w.heap.size,0,none⟩=some (.string r.path)/\w'.rangeAt w.heap.size 0 cs) (by kernel_rfl) hq0 (fun hHeld=>?_);refine yT 0 ?_;refine yT 1 ?_;refine yT 2 ?_;refine yT 3 ?_;refine yT 4 ?_;refine yT 5 ?_;refine yT 6 ?_;refine' wpAnyH_take (i:=7) (v:=_) rfl (by kernel_rfl) (by kernel_rfl) (by kernel_rfl) (fun _ _ _ h=>h) (yieldsIf_load_mid (by rfl) _ _ rfl _ _ rfl _ _ ?_ hu2 rfl hi2) (by assumption) ?_
     ·(intro w hSw;exact hSw.2.2)
     simp only[Act.put,yP];refine yR 8 (fun K hK=>?_)
     go_simp;refine(Fz S r cs W.drew (nC.out.below BW.drew) HB.out).mono ?_;rintro e w10 ⟨cs',rfl,Ox,b10⟩;have RV:=Copy.ax b10;have Yj:=XW.out.below RV;have S10:=BSW.out.below RV;have hl':=Ox.length;refine hK.out _ _ (by have:=Yj.range;rw[wG.out]at this;exact⟨S10.cell 0,Yj.c0,this⟩) (fun hHeld=>?_);clear hK K;refine yR 9 (fun K hK=>?_)
     go_simp;have B10:=BW.trans (RV.mono BW.size);have sW:=BW.size;have s10:=RV.size;refine(Tab.zdj M F (fun b=>W.heap.size<=b/\b<w10.heap.size) t rs r cs' w10 (HA.out.below B10) (Ox.sub (fun q hq (h:W.heap.size<=q)=>⟨h,hq⟩)) (fun b hb=>⟨hb.2,fun hm=>by have:=HIS.out.lt b (.inl hm);omega⟩) zbi.out (by omega)).mono ?_;rintro e w11 ⟨rfl,M',hat,Xr,hM'⟩;have X11:=Yj.kp Xr hmb;have S11:=S10.kp Xr hms;refine hK.out _ _ (by have:=X11.range;rw[wG.out]at this;exact⟨S11.cell 0,X11.c0,this⟩) (fun hHeld=>?_);clear hK K;refine wpAnyH_done (by kernel_rfl) ?_ _;clear hHeld hq0
     go_wp2_with fail
     go_ret;rw[qo.out,HE2.out];exact⟨rfl,M',_,⟨⟨t,S11,hat⟩,.inl hso⟩,(Kp.of_below B10:Kp M w w10).then Xr,fun b hb=>(hM' b hb).imp id (fun h=>by omega),fun b hb=>hb.imp id (fun h=>by have:=h.1;omega)⟩
end St

namespace St
open Go.RowKit Mem Tr
open Go.Proofs.YtmmmghpimdfleaaGreatDoor.Own
theorem Dy:∀(cs:List Value) (k:Nat) (zs:Array Value) (j:Nat),(List.foldl (fun(a:Array Value) (x:Value × Nat)=>a.setIfInBounds x.snd x.fst) zs (cs.zipIdx k))[j]? = if k<=j/\j<k+cs.length/\j<zs.size then cs[j-k]? else zs[j]?
 | [],k,zs,j=>by
  rw[if_neg (by simp;omega)];rfl
 | v :: r,k,zs,j=>by
  rw[List.zipIdx_cons,List.foldl_cons,Dy r (k+1) _ j];simp only[Array.size_setIfInBounds,Array.getElem?_setIfInBounds,List.length_cons];by_cases h1:k+1<=j/\j<k+1+r.length/\j<zs.size
  ·rw[if_pos h1,if_pos (by omega),show j-k=(j-(k+1))+1 by omega,List.getElem?_cons_succ]
  ·rw[if_neg h1];by_cases h2:k=j
   ·subst h2;rw[if_pos rfl];by_cases h3:k<zs.size
    ·rw[if_pos h3,if_pos (by omega)];simp
    ·rw[if_neg h3,if_neg (by omega),Array.getElem?_eq_none (by omega)]
   ·rw[if_neg h2,if_neg (by omega)]
theorem Dz:∀(cs:List Value) (o k:Nat) (zs:Array Value),List.foldl (fun(a:Array Value) (x:Value × Nat)=>a.setIfInBounds (o+x.snd) x.fst) zs (cs.zipIdx k)=List.foldl (fun(a:Array Value) (x:Value × Nat)=>a.setIfInBounds x.snd x.fst) zs (cs.zipIdx (o+k))
 | [],_,_,_=>rfl
 | v :: r,o,k,zs=>by
  rw[List.zipIdx_cons,List.zipIdx_cons,List.foldl_cons,List.foldl_cons,Dz r o (k+1) _];rfl
theorem fold_size(f:Value × Nat->Nat):∀(l:List (Value × Nat)) (zs:Array Value),(List.foldl (fun(a:Array Value) (x:Value × Nat)=>a.setIfInBounds (f x) x.fst) zs l).size=zs.size
 | [],_=>rfl
 | p :: r,zs=>by rw[List.foldl_cons,fold_size f r];simp
theorem Hu(c0 c1 c2 c3 c4 c5 x y:Value)(Z:List Value)(DC:List Value)(hd:DC.length=32)(hz:Z.length=32) :
 (List.foldl (fun(a:Array Value) (x:Value × Nat)=>a.setIfInBounds (6+x.snd) x.fst) ([c0,c1,c2,c3,c4,c5]++(Z ++ [x])).toArray DC.zipIdx).setIfInBounds 38 y=([c0,c1,c2,c3,c4,c5]++(DC ++ [y])).toArray:=by
 rw[Dz];apply Array.ext_getElem?;intro j;rw[Array.getElem?_setIfInBounds,Dy];have hs:(([c0,c1,c2,c3,c4,c5]++(Z ++ [x])).toArray).size=39:=(by simp[hz]);have hs2:(List.foldl (fun(a:Array Value) (x:Value × Nat)=>a.setIfInBounds x.snd x.fst) ([c0,c1,c2,c3,c4,c5]++(Z ++ [x])).toArray (DC.zipIdx (6+0))).size=39:=by
  have:∀(l:List (Value × Nat)) (zs:Array Value),(List.foldl (fun(a:Array Value) (x:Value × Nat)=>a.setIfInBounds x.snd x.fst) zs l).size=zs.size:=by
   intro l
   induction l with
   | nil=>intro zs;rfl
   | cons p r ih=>intro zs;rw[List.foldl_cons,ih];simp
  rw[this,hs]
 rw[hs,hs2,hd];by_cases h1:38=j
 ·subst h1;rw[if_pos rfl,if_pos (by omega),List.getElem?_toArray,List.getElem?_append_right (by simp),List.getElem?_append_right (by simp[hd])];simp[hd]
 ·rw[if_neg h1];by_cases h2:6+0<=j/\j<6+0+32/\j<39
  ·rw[if_pos h2,List.getElem?_toArray,List.getElem?_append_right (by simp;omega),List.getElem?_append_left (by simp;omega)];rfl
  ·rw[if_neg h2,List.getElem?_toArray,List.getElem?_toArray];by_cases h3:j<6
   ·rw[List.getElem?_append_left (by simpa using h3),List.getElem?_append_left (by simpa using h3)]
   ·rw[List.getElem?_eq_none (by simp[hz];omega),List.getElem?_eq_none (by simp[hd];omega)]
theorem Oy{s:ByteArray}(h:Pre.cZ s=0):s.size<=211:=by
 unfold Pre.cZ at h;split at h
 ·rename_i h1;unfold Pre.nH at h1;rw[Bool.and_eq_true,decide_eq_true_eq]at h1;have:=h1.1.2.1;rw[Xd.size_data];exact this
 ·cases h
theorem qh(rc st:Nat->BitVec 32)(refs:List ByteArray)(sum:List UInt8)(label:ByteArray):(Make.jW rc st refs sum label).size=46+label.size:=by
 rw[Xd.size_data,Xd.mM,Xd.size_data label];simp only[List.length_append,dW.gq,dW.iJ,List.length_cons,List.length_nil];have:Pre.bz.data.toList.length=13:=rfl;omega
/-- The record that Add makes. -/
def bY(rc st:Nat->BitVec 32)(label:ByteArray)(T:Tree)(refs:List ByteArray):Rec :=
 { path:=Make.jW rc st refs (Sum.nX rc st T) label,tree:=T,refs:=refs,hash:=Sum.nX rc st T,size:=((Sum.bytesOf T).length:Nat) }
def ru(rc st:Nat->BitVec 32)(rs:List Rec)(label:ByteArray)(T:Tree)(refs:List ByteArray):Int :=
 if Sum.codeOf T=0 then(if Make.bJ refs label=0 then aJ.eY rc st rs (bY rc st label T refs)else Make.bJ refs label)else Sum.codeOf T
def xg(rc st:Nat->BitVec 32)(rs:List Rec)(label:ByteArray)(T:Tree)(refs:List ByteArray):List Rec :=
 if Sum.codeOf T=0/\Make.bJ refs label=0 then aJ.fM rc st rs (bY rc st label T refs)else rs
def tH(rc st:Nat->BitVec 32)(rs:List Rec)(label:ByteArray)(T:Tree)(refs:List ByteArray):ByteArray :=
 if ru rc st rs label T refs=0 then(bY rc st label T refs).path else⟨#[]⟩
/-- What Add answers, and what the store holds then. -/
def AQ(M F:Nat->Prop)(w:World)(s:Nat)(p:ByteArray)(n:Int)(rs:List Rec)(e:Ending)(w':World):Prop :=
 e = .returned (.tuple #[.string p,.int .i64 n])/\∃M' F',Is M' F' w' s rs/\Kp M w w'/\(∀b,M' b->M b∨w.heap.size<=b)/\∀b,F' b->F b∨w.heap.size<=b
theorem ry{M F:Nat->Prop}{w w':World}{s:Nat}{p:ByteArray}{n:Int}{rs:List Rec}(h:Is M F w s rs)(hb:Below w.heap.size w w'):AQ M F w s p n rs (.returned (.tuple #[.string p,.int .i64 n])) w' :=
 ⟨rfl,M,F,h.below hb,Kp.of_below hb,fun _ h=>.inl h,fun _ h=>.inl h⟩
set_option maxRecDepth 20000 in
theorem zT(rc st:Nat->BitVec 32)(M F S S':Nat->Prop)(s:Nat)(rs:List Rec)(label:ByteArray)(T:Tree)(refs:List ByteArray)(kv rv:Value)(w:World)(h:Is M F w s rs)(hg:Sum.Gl rc st w)
 (hk:ay S w kv T.kids) (hr:Strs S' w rv refs) (hS:∀b,S b->b<w.heap.size) (hS':∀b,S' b->b<w.heap.size) (hcap:∀n cap,rv = .slice none n cap->cap=0)
 (hgood:aJ.Good rc st rs) (hb:T.bulk<=2097152) (hbr:aB refs<=1048576) (hn:rs.length<=1073741823) :
 Calls Tryz.prog 19 #[.pointer (some ⟨s,0,none⟩),.string label,Sum.iw T kv,rv] w (AQ M F w s (tH rc st rs label T refs) (ru rc st rs label T refs) (xg rc st rs label T refs)):=by
 have HIS:=yH h;have HK:=yH hk;have HR:=yH hr;have Ov:=yH hgood;have HS:=yH hS;have HS':=yH hS';have HG:=yH hg;have HCAP:=yH hcap;obtain⟨ao,cap,rfl,_,_,_⟩:=hk;obtain⟨dL,cap2,rfl,_,_,_⟩:=hr;clear h hg hS hS' hgood hcap;unfold Sum.iw
 go_enter Tryz.func19,Tryz.ntmps19
 go_wp2_with fail;refine ae fun w1 hw1=>?_
 obtain⟨b1,x1⟩:=af hw1;clear hw1;have X1:=yH x1;clear x1;refine(Sum.I5 rc st S T _ w1 (HG.out.below b1) (HK.out.below b1) (fun i hi=>Nat.lt_of_lt_of_le (HS.out i hi) b1.size) (by omega)).mono ?_;rintro e w3 ⟨rfl,b3⟩;obtain⟨D,sz,hv,hDl,hD0⟩:=sJ rc st T;rw[hv];have HD0:=yH hD0;have nN:=yH hDl;obtain⟨c,hc⟩:∃c,Sum.codeOf T=c:=⟨_,rfl⟩;rw[hc]at HD0 ⊢;have HC:=yH hc;have B3:=b1.trans (b3.mono b1.size);have X3:=yH (X1.out.below b3);obtain⟨DC,CP⟩:∃DC,Lib.byteCells D=DC:=⟨_,rfl⟩;have fK:DC.length=32:=(by rw[←CP,Lib.byteCells_length,hDl]);have uH:∀v∈DC,v.oneCell'=true:=(by rw[←CP];exact oI D);have VL:=yH CP;rw[CP];clear hc hv hD0 hDl CP;by_cases h2:c=0
 case neg =>
  have t2:(c != 0)=true:=(by simpa using h2);have qo:=yH (show ru rc st rs label T refs=c by unfold ru;rw[HC.out,if_neg h2]);have HE2:=yH (show xg rc st rs label T refs=rs by unfold xg;rw[HC.out,if_neg (fun h=>h2 h.1)]);have Xt:=yH (show tH rc st rs label T refs=⟨#[]⟩ by unfold tH;rw[qo.out,if_neg h2]);clear h2
  go_wp2_with (refine wpList_store_mid (by rfl) 29 _ _ (by rfl) w3.heap.size 0 DC.toArray (by rfl) (by rfl) ?h4 ?h5 ?h6 ?_;rotate_right;refine Mem.named ?_;intro W hW)
  case h4=>exact(Bx.new w3 _ _).there _ (by rw[show DC.toArray.size=32 by simpa using fK];rfl)
  case h5=>rw[List.size_toArray,fK];kernel_rfl
  case h6=>exact all_oneCell_toArray uH
  have B4:=B3.trans ((aX hW).mono B3.size)
  go_ret2;rw[qo.out,HE2.out,Xt.out];exact ry HIS.out B4
 subst h2
 go_wp2_with (first
  | (refine wpList_store_mid (by rfl) 29 _ _ (by rfl) w3.heap.size 0 DC.toArray (by rfl) (by rfl) ?a4 ?a5 ?a6 ?_;rotate_right;refine Mem.named ?_;intro W hW;have r2:=aZ hW (fK.symm))
  | (refine wpList_load_mid rfl 29 _ (by rfl) w3.heap.size 0 (by rfl) DC _ r2 Tryz.underlying29 rfl (by rw[fK];kernel_rfl) ?_))
 case a4=>exact(Bx.new w3 _ _).there _ (by rw[show DC.toArray.size=32 by simpa using fK];rfl)
 case a5=>rw[List.size_toArray,fK];kernel_rfl
 case a6=>exact all_oneCell_toArray uH
 have B4:=B3.trans ((aX hW).mono B3.size);have X4:=yH (X3.out.below (aX hW));have hM:=Make.zba rc st _ refs D label W (HG.out.below B4) (HR.out.below B4).reads HCAP.out nN.out;rw[VL.out]at hM;have HR2:=yH r2;clear hW r2;obtain⟨me,hme⟩:∃me,Make.bJ refs label=me:=⟨_,rfl⟩;have HM:=yH hme;by_cases h3:me=0
 case neg =>
  have hE:Make.kK rc st refs D label = .tuple #[.string ⟨#[]⟩,.int .i64 me]:=(by unfold Make.kK;rw[hme,if_neg h3]);rw[hE]at hM;have t3:(me != 0)=true:=(by simpa using h3);have qo:=yH (show ru rc st rs label T refs=me by unfold ru;rw[HC.out,if_pos rfl,hme,if_neg h3]);have HE2:=yH (show xg rc st rs label T refs=rs by unfold xg;rw[if_neg (fun h=>h3 (by rw[←hme];exact h.2))]);have Xt:=yH (show tH rc st rs label T refs=⟨#[]⟩ by unfold tH;rw[qo.out,if_neg h3]);clear hE h3 hme;refine hM.mono ?_;rintro e w5 ⟨rfl,b5⟩;have B5:=B4.trans (b5.mono B4.size);clear hM
  go_wp2_with fail
  go_ret2;rw[qo.out,HE2.out,Xt.out];exact ry HIS.out B5
 subst h3;have hE:Make.kK rc st refs D label = .tuple #[.string (bY rc st label T refs).path,.int .i64 0]:=by
  unfold Make.kK;rw[hme,if_pos rfl,(HD0.out (by first|rfl|trivial)).1];rfl
 rw[hE]at hM;clear hE hme;obtain⟨P,hP⟩:∃P,(bY rc st label T refs).path=P:=⟨_,rfl⟩;rw[hP]at hM;have HP:=yH hP;clear hP;refine hM.mono ?_;rintro e w5 ⟨rfl,b5⟩;clear hM;have B5:=B4.trans (b5.mono B4.size);have X5:=X4.out.below b5;have r5:w5.rangeAt w3.heap.size 0 DC:=fun j u hj=>(b5.cell (p:=⟨w3.heap.size,0+j,none⟩) (World.block_lt_of_cell? W _ (HR2.out j u hj))).trans (HR2.out j u hj)
 have c0:w5.cell? ⟨w.heap.size,0,none⟩=some (.int .i64 T.kind):=X5.cell 0;have c1:w5.cell? ⟨w.heap.size,1,none⟩=some (.bool T.exec):=X5.cell 1;have c2:w5.cell? ⟨w.heap.size,2,none⟩=some (.string T.text):=X5.cell 2;have c3:w5.cell? ⟨w.heap.size,3,none⟩=some (.slice ao T.kids.len cap):=X5.cell 3;clear X5;have hfold:=fun(Z:List Value) (hz:Z.length=32)=>Hu (.string P) (.int .i64 T.kind) (.bool T.exec) (.string T.text) (.slice ao T.kids.len cap) (.slice dL refs.length cap2) (.int .i64 0) (.int .i64 sz) Z DC fK hz
 have hf2:(List.foldl (fun(a:Array Value) (x:Value × Nat)=>a.setIfInBounds (6+x.snd) x.fst) #[Value.string P,.int .i64 T.kind,.bool T.exec,.string T.text,.slice ao T.kids.len cap,.slice dL refs.length cap2,.int .u8 0,.int .u8 0,.int .u8 0,.int .u8 0,.int .u8 0,.int .u8 0,.int .u8 0,.int .u8 0,.int .u8 0,.int .u8 0,.int .u8 0,.int .u8 0,.int .u8 0,.int .u8 0,.int .u8 0,.int .u8 0,.int .u8 0,.int .u8 0,.int .u8 0,.int .u8 0,.int .u8 0,.int .u8 0,.int .u8 0,.int .u8 0,.int .u8 0,.int .u8 0,.int .u8 0,.int .u8 0,.int .u8 0,.int .u8 0,.int .u8 0,.int .u8 0,.int .i64 0] DC.zipIdx).setIfInBounds 38 (.int .i64 sz)=_:=hfold (List.replicate 32 (.int .u8 0)) rfl;have hsz:(List.foldl (fun(a:Array Value) (x:Value × Nat)=>a.setIfInBounds (6+x.snd) x.fst) #[Value.string P,.int .i64 T.kind,.bool T.exec,.string T.text,.slice ao T.kids.len cap,.slice dL refs.length cap2,.int .u8 0,.int .u8 0,.int .u8 0,.int .u8 0,.int .u8 0,.int .u8 0,.int .u8 0,.int .u8 0,.int .u8 0,.int .u8 0,.int .u8 0,.int .u8 0,.int .u8 0,.int .u8 0,.int .u8 0,.int .u8 0,.int .u8 0,.int .u8 0,.int .u8 0,.int .u8 0,.int .u8 0,.int .u8 0,.int .u8 0,.int .u8 0,.int .u8 0,.int .u8 0,.int .u8 0,.int .u8 0,.int .u8 0,.int .u8 0,.int .u8 0,.int .u8 0,.int .i64 0] DC.zipIdx).size=39:=fold_size (fun x=>6+x.snd) _ _;clear hfold;obtain⟨CS,hCS⟩:∃CS,[Value.string P,.int .i64 T.kind,.bool T.exec,.string T.text,.slice ao T.kids.len cap,.slice dL refs.length cap2]++(DC ++ [.int .i64 sz])=CS:=⟨_,rfl⟩;rw[hCS]at hf2;have wG:=yH hCS;have HF:=yH hf2;clear hCS hf2
 go_wp2_with (refine wpList_load_mid rfl 29 _ (by rfl) w3.heap.size 0 (by rfl) DC _ r5 Tryz.underlying29 rfl (by rw[fK];kernel_rfl) ?_)
 rw[HF.out];have hd0:=HD0.out (by first|rfl|trivial);have hcells:CS=(bY rc st label T refs).cells (.slice ao T.kids.len cap) (.slice dL refs.length cap2):=by
  rw[←wG.out,←VL.out,←HP.out];unfold Rec.cells;show _ = [Value.string (bY rc st label T refs).path,.int .i64 T.kind,.bool T.exec,.string T.text,.slice ao T.kids.len cap,.slice dL refs.length cap2]++(Lib.byteCells (Sum.nX rc st T) ++ [Value.int .i64 (((Sum.bytesOf T).length:Nat):Int)]);rw[←hd0.1,←hd0.2]
 have hrec:aT (fun b=>S b∨S' b) w5 CS (bY rc st label T refs) :=
  ⟨_,_,hcells,Sum.rf rc st T,(HK.out.below B5).sub (fun _ _ h=>.inl h),(HR.out.below B5).sub (fun _ _ h=>.inr h)⟩
 have hS2:∀b,(S b∨S' b)->b<w5.heap.size:=fun b hb=>Nat.lt_of_lt_of_le (hb.elim (HS.out b) (HS'.out b)) B5.size
 have hlab:Pre.cZ label=0:=by
  have:=HM.out;unfold Make.bJ at this;split at this
  ·assumption
  ·rename_i h;exact absurd this h
 have hbk:(bY rc st label T refs).bulk<=4194304:=(by have h1:=qh rc st refs (Sum.nX rc st T) label;have h2:=Oy hlab;show(Make.jW rc st refs (Sum.nX rc st T) label).size+T.bulk+aB refs<=4194304;omega);have hI:=insertC rc st M F (fun b=>S b∨S' b) s rs (bY rc st label T refs) CS w5 (HIS.out.below B5) (HG.out.below B5) hrec hS2 Ov.out hbk hn;have qo:=yH (show ru rc st rs label T refs=aJ.eY rc st rs (bY rc st label T refs) by unfold ru;rw[HC.out,if_pos rfl,HM.out,if_pos rfl]);have HE2:=yH (show xg rc st rs label T refs=aJ.fM rc st rs (bY rc st label T refs) by unfold xg;rw[if_pos ⟨HC.out,HM.out⟩]);obtain⟨E,hE⟩:∃E,aJ.eY rc st rs (bY rc st label T refs)=E:=⟨_,rfl⟩;obtain⟨RS,hRS⟩:∃RS,aJ.fM rc st rs (bY rc st label T refs)=RS:=⟨_,rfl⟩;rw[hE,hRS]at hI;rw[hE]at qo;rw[hRS]at HE2;clear hE hRS hd0 hcells hrec hS2 hlab hbk hsz r5 c0 c1 c2 c3;refine hI.mono ?_;rintro e w6 ⟨rfl,M',F',his,kp,hM1,hF1⟩;clear hI;have hfin:∀p:ByteArray,AQ M F w s p E RS (.returned (.tuple #[.string p,.int .i64 E])) w6:=fun p =>
  ⟨rfl,M',F',his,(Kp.of_below B5:Kp M w w5).then kp,fun b hb=>(hM1 b hb).imp id (fun h=>Nat.le_trans B5.size h),fun b hb=>(hF1 b hb).imp id (fun h=>Nat.le_trans B5.size h)⟩
 have sQ:=yH hfin;clear hfin his kp hM1 hF1;by_cases h6:E=0
 ·subst h6;have Xt:=yH (show tH rc st rs label T refs=P by unfold tH;rw[qo.out,if_pos rfl];exact HP.out)
  go_wp2_with fail
  go_ret2;rw[qo.out,HE2.out,Xt.out];exact sQ.out P
 ·have t6:(E != 0)=true:=(by simpa using h6);have Xt:=yH (show tH rc st rs label T refs=⟨#[]⟩ by unfold tH;rw[qo.out,if_neg h6]);clear h6
  go_wp2_with fail
  go_ret2;rw[qo.out,HE2.out,Xt.out];exact sQ.out ⟨#[]⟩
end St
end Go.Proofs.YtmmmghpimdfleaaGreatDoor
