/-
  sweep.choose: of the dead paths that nothing fE to the one that goes next.
  sweep.Collect and sweep.zaW.
  A store within its bounds; what a sweep leaves of it; Live, Dead and Collect over such a store.
-/
import Derived.Test.YtmmmghpimdfleaaGreatDoorTk
import Derived.Test.YtmmmghpimdfleaaGreatDoorGrpZ
import Derived.Test.YtmmmghpimdfleaaGreatDoorGrpY
import Derived.Test.YtmmmghpimdfleaaGreatDoorGrpX
import Derived.Test.YtmmmghpimdfleaaGreatDoorWOffs
import Derived.WalkMore
import Derived.Test.YtmmmghpimdfleaaGreatDoorWClsd
set_option linter.unusedVariables false
set_option maxHeartbeats 8000000
set_option linter.unusedSimpArgs false
namespace Go.Proofs.YtmmmghpimdfleaaGreatDoor
namespace kU
open Go.RowKit Mem Tr St
open Go.Proofs.YtmmmghpimdfleaaGreatDoor.Own
open Go.Proofs.YtmmmghpimdfleaaGreatDoor.Mp (Mp Fv)
def Z3:Array Value:=#[.string ⟨#[]⟩,.int .i64 0,.float .f64 0]
def rO(cnt:ByteArray->Int)(r:Rec):Nat:=bD r.size (cnt r.path)
def bst(cnt:ByteArray->Int):Bst:=fun a b=>ahead a.path (rO cnt a) b.path (rO cnt b)
def pk(cnt:ByteArray->Int):Option Rec->Array Value
 | none=>Z3
 | some r=>#[.string r.path,.int .i64 r.size,.float .f64 (rO cnt r)]
def Gh(w:World)(cnt:ByteArray->Int)(acc:Option Rec)(e:Ending)(w':World):Prop:=e = .returned (.tuple #[.agg (pk cnt acc),.bool acc.isSome])/\Below w.heap.size w w'
theorem oK{w:World}{b:Nat}{Z:Array Value}{T:TypeId}{cs:List Value}(h:Bx w b Z T)(hz:Z.size=cs.length):Bx (w.setCells b 0 cs) b cs.toArray T:=by
 obtain⟨zs,hb,hs⟩:=bH cs 0 _ h;have hr:(w.setCells b 0 cs).rangeAt b 0 cs:=World.rangeAt_setCells_same _ _ _ _ (h.there cs.length hz);have e:zs=cs.toArray:=by
  apply Array.ext
  ·simp;omega
  ·intro j h1 h2;have hj:j<cs.length:=(by simpa using h2);have h3:=hr j cs[j] (List.getElem?_eq_getElem hj);rw[Nat.zero_add,hb.cell,Array.getElem?_eq_getElem h1]at h3
   simpa using Option.some.inj h3
 rw[←e];exact hb
theorem tN:(Tryz.prog.info? 139).map (·.size)=some 3:=by kernel_rfl
theorem DZ{best:Bst}{rs:List Rec}{acc:Option Rec}{p:ByteArray}(h:free rs p=false):jV best rs acc p=acc:=by unfold jV;rw[h,if_neg (by decide)]
theorem D6{best:Bst}{rs:List Rec}{acc:Option Rec}{p:ByteArray}{r:Rec}(h:free rs p=true)(hg:Sp.get Rec.path rs p=some r):jV best rs acc p=match acc with
 | none=>some r
 | some a=>if best r a=true then some r else some a:=by
 unfold jV;rw[h,if_pos rfl,hg];cases acc<;>rfl
set_option maxRecDepth 20000 in
theorem SB(M F:Nat->Prop)(s:Nat)(rs:List Rec)(dv:Value)(D:List ByteArray)(bm cn:Nat)(cnt:ByteArray->Int)(w:World)(h:Is M F w s rs)(hn:rs.length<=1048576)(hbk:∀r∈rs,r.bulk<=4194304)(hsm:Small rs)(hcnt:∀u,cnt u<9223372036854775808)
 (hd:Strs (fun b=>b<w.heap.size) w dv D) (hdl:D.length<=1048576) (hds:∀p∈D,p.size<=4194304) (hm:Cm w bm cn cnt) :
 Calls Tryz.prog 97 #[.pointer (some ⟨s,0,none⟩),dv,.map (some bm)] w (Gh w cnt (pick (bst cnt) rs D)):=by
 have HIS:=yH h;have HD:=yH hd;have PO:=yH hds;have HCM:=yH hm;have YG:=yH hbk;have QV:=yH hsm;have HCN:=yH hcnt;obtain⟨m,hmm⟩:∃m,D.length=m:=⟨_,rfl⟩;have HM:=yH hmm;obtain⟨ao,cap,rfl,_,_,_⟩:=hd;rw[hmm]at HD hdl;rw[hmm];clear h hds hm hbk hsm hmm hcnt
 go_enter Tryz.func97,Tryz.ntmps97
 go_wp2_with fail;refine Mem.named ?_;intro w2 hw2;have x6:Bx w2 w.heap.size Z3 139:=(by rw[←hw2];exact Bx.new w Z3 139);have b2:Below w.heap.size w w2:=(by rw[←hw2];exact(Below.refl _ w).alloc (Nat.le_refl _) _);clear hw2
 go_step3
 go_wp2_with fail;refine Mem.named ?_;intro w3 hw3;have x8:Bx w3 w2.heap.size Z3 139:=(by rw[←hw3];exact Bx.new w2 Z3 139);have b3:Below w2.heap.size w2 w3:=(by rw[←hw3];exact(Below.refl _ w2).alloc (Nat.le_refl _) _);clear hw3
 go_wp2_with fail
 go_step3
 go_wp2_with fail
 go_loopw [9,11,12,13,14,15,16,19,31,34] (fun x9 _ _ _ _ _ _ i _ _ wr=>∃k:Nat,k<=m/\i = .int .i64 k/\∃fo:Bool,x9 = .bool fo/\Hid ((pick (bst cnt) rs (D.take k)).isSome=fo/\Bx wr w2.heap.size (pk cnt (pick (bst cnt) rs (D.take k))) 139)/\Below w2.heap.size w2 wr) (fun _ _ _ _ _ _ _ i _ _ _=>m-(intOf i).toNat)
 case atStart=>exact⟨0,Nat.zero_le _,rfl,false,rfl,yH ⟨rfl,x8⟩,b3⟩
 case round =>
  obtain⟨k,hk,rfl,fo,rfl,HI,br⟩:=hrel;have B:=b2.trans (br.mono b2.size);by_cases hlt:k<m
  ·obtain⟨rb,ro,wJ,nR,hcells⟩:=fP (HD.out.below B) (by rw[HM.out];omega);injection nR with ji gY jk;subst ji;clear gY jk;have hkl:k<D.length:=(by rw[HM.out];exact hlt);have gk:=hcells k hkl;have hpz:=PO.out D[k] (List.getElem_mem _);have hpk:=yQ (bst cnt) rs D k hkl;obtain⟨p,hp⟩:∃p,D[k]=p:=⟨_,rfl⟩;rw[hp]at gk hpz hpk;have Jk:=yH hpk;have HPZ:=yH hpz;obtain⟨acc,hacc⟩:∃acc,pick (bst cnt) rs (D.take k)=acc:=⟨_,rfl⟩;rw[hacc]at Jk HI;have zdM:=yH hacc;have e0:(0:Int)<=(k:Int):=Int.natCast_nonneg _;have e1:(k:Int)<(m:Int):=(by omega);clear hcells hp hpk hpz hacc hkl
   go_wp2_with fail;refine(qj M F s rs p wr (HIS.out.below B) (by omega)).mono ?_;rintro e w4 ⟨b4,hm4⟩;have SC:=br.trans (b4.mono br.size);have HB4:=yH (HI.out.2.below b4);have OG:=yH HI.out.1;obtain⟨H,hH⟩:∃H,aJ.has rs p=H:=⟨_,rfl⟩;rw[hH]at hm4;have HH:=yH hH;clear hH HI;cases H with
   | false =>
    obtain rfl:=hm4;have Bf:=yH (show free rs p=false by unfold free;rw[HH.out];rfl);have bF:=yH (show(pick (bst cnt) rs (D.take (k+1))).isSome=fo/\Bx w4 w2.heap.size (pk cnt (pick (bst cnt) rs (D.take (k+1)))) 139 from by rw[Jk.out,DZ Bf.out];exact⟨OG.out,HB4.out⟩)
    go_wp2_with fail
    go_roundw
    case rel=>exact⟨k+1,by omega,by go_num,fo,rfl,bF,SC⟩
    case measure=>simp[intOf];omega
   | true =>
    obtain⟨v4,rfl,XL⟩:=hm4;obtain⟨u,hu⟩:∃u,(gZ rs p).length=u:=⟨_,rfl⟩;obtain⟨a4,c4,rfl⟩:=Tab.aO XL;rw[hu];have HU:=yH hu;clear XL hu;by_cases hu0:u=0
    ·subst hu0;have hre:gZ rs p = []:=List.eq_nil_of_length_eq_zero HU.out;have Bf:=yH (show free rs p=true by unfold free;rw[HH.out,hre];rfl);obtain⟨r,hr⟩:∃r,Sp.get Rec.path rs p=some r:=Option.isSome_iff_exists.1 HH.out;have hrm:=Sp.get_some hr;have HR:=yH hr;have hsz:=QV.out r hrm.1;have HRP:=yH hrm.2;clear hre hrm hr
     go_wp2_with fail;refine(storeOffers.Iq w4 (HIS.out.below (B.trans (b4.mono B.size))) (by omega) YG.out HR.out).mono ?_;rintro e w5 ⟨oc,hol,hoc,rfl,b5,hrec⟩;obtain⟨kv,rv,hcs,hh,_,_⟩:=hrec;have wG:=yH hcs;have VS:=SC.trans (b5.mono SC.size);clear hcs
     go_wp2_with (refine wpList_store_mid (by rfl) 31 _ _ (by rfl) w5.heap.size 0 oc.toArray (by rfl) (by rfl) ?s4 ?s5 ?s6 ?_;rotate_right;refine Mem.named ?_;intro W5 Jy;have x5:RB W5 w5.heap.size r kv rv:=⟨by have:=lu Jy (hol.symm);rw[wG.out]at this;exact this,hh⟩;have k38:=x5.G8;have b6:=aX Jy;clear x5 Jy)
     case s4=>first|exact(Bx.new w5 Ins.ah.cells 31).there 39 rfl|exact(Bx.new w5 Ins.ah.cells 31).there _ (by rw[show oc.toArray.size=39 by simpa using hol];rfl)
     case s5=>first|exact sN|(rw[List.size_toArray,hol];kernel_rfl)
     case s6=>first|exact hoc|exact all_oneCell_toArray hoc
     have PN:=VS.trans (b6.mono VS.size);have B6:=b2.trans (PN.mono b2.size);have HB6:=yH ((HB4.out.below b5).below b6);obtain⟨z,hz⟩:∃z,r.size=z:=⟨_,rfl⟩;have HZ:=yH hz;rw[hz]at k38 hsz;obtain⟨c,hc⟩:∃c,cnt p=c:=⟨_,rfl⟩;have hc9:c<9223372036854775808:=(by rw[←hc];exact HCN.out p);have Yi:z<9223372036854775808:=(by omega);have hlk:∀W',Below w.heap.size w W'->(Instr.lookup 67 (.map (some bm)) (.string p) false).run Tryz.prog W' = .ok (.int .i64 c) W':=fun W' hb=>by rw[←hc];exact(HCM.out.below hb).look (by have:=HPZ.out;unfold maxLen;omega)
     have HC:=yH hc;obtain⟨rb5,zbF⟩:∃rb5,w5.heap.size=rb5:=⟨_,rfl⟩;rw[zbF]at k38 ⊢;have zdN:=World.block_lt_of_cell? W5 _ k38;have hS3:∀W',Below W5.heap.size W5 W'->W'.cell? ⟨rb5,38,none⟩=some (.int .i64 z)/\(Instr.lookup 67 (.map (some bm)) (.string p) false).run Tryz.prog W' = .ok (.int .i64 c) W':=fun W' hb=>⟨(hb.cell (p:=⟨rb5,38,none⟩) zdN).trans k38,hlk W' (B6.trans (hb.mono B6.size))⟩
     have hS0:=hS3 W5.drew (Below.refl _ W5).drew;have HNS:=yH (show rO cnt r=bD z c from by unfold rO;rw[HRP.out,HZ.out,HC.out]);have uN:=yH (comes z c Yi hc9).2;clear hz hc zbF hh hol hoc wG b4 b5 b6 hsz
     go_wp2_with fail;refine wp_region_held_drew (S:=fun W'=>W'.cell? ⟨rb5,38,none⟩=some (.int .i64 z)/\(Instr.lookup 67 (.map (some bm)) (.string p) false).run Tryz.prog W' = .ok (.int .i64 c) W') (by kernel_rfl) hS0 (fun hHeld=>?_);refine yT 0 ?_;refine yT 1 ?_;refine yT 2 ?_;refine yT 3 ?_;refine yT 4 ?_;refine yT 5 ?_;refine yT 6 ?_;refine yT 7 ?_;refine wpAnyH_ready (rs:=[8,10]) (by kernel_rfl) (by simp) ?_;refine AllReadyH.cons rfl (fun K hK=>?Ae) (AllReadyH.cons rfl (fun K hK=>?Af) AllReadyH.nil)
     case' Ae =>
      go_simp;refine(O6 z c W5.drew Yi hc9).mono ?_;rintro e wg3 ⟨rfl,rfl⟩;refine hK.out _ _ hS0 (fun hHeld=>?_);clear hK K;refine yT 9 ?_;refine yR 10 (fun K hK=>?_)
      go_simp
      change K _ ((W5.drew).alloc (.cells Z3 139))
      obtain⟨WN,Dx⟩:∃W,(W5.drew).alloc (.cells Z3 139)=W:=⟨_,rfl⟩;have xN:Bx WN W5.heap.size Z3 139:=(by rw[←Dx];exact Bx.new W5.drew Z3 139);have bN:Below W5.heap.size W5 WN:=(by rw[←Dx];exact((Below.refl _ W5).drew).alloc (Nat.le_refl _) _);rw[Dx];refine hK.out _ _ (hS3 WN bN) (fun hHeld=>?_);clear hK K Dx
     case' Af =>
      go_simp
      change K _ (W5.alloc (.cells Z3 139)).drew
      obtain⟨WN,Dx⟩:∃W,(W5.alloc (.cells Z3 139)).drew=W:=⟨_,rfl⟩;have xN:Bx WN W5.heap.size Z3 139:=(by rw[←Dx];exact Bx.new W5 Z3 139);have bN:Below W5.heap.size W5 WN:=(by rw[←Dx];exact((Below.refl _ W5).alloc (Nat.le_refl _) _).drew);rw[Dx];refine hK.out _ _ (hS3 WN bN) (fun hHeld=>?_);clear hK K Dx;refine yR 8 (fun K hK=>?_)
      go_simp;refine(O6 z c WN Yi hc9).mono ?_;rintro e wg3 ⟨rfl,hwg⟩;have hwg:=hwg.symm;subst hwg;refine hK.out _ _ (hS3 WN bN) (fun hHeld=>?_);clear hK K;refine yT 9 ?_
     all_goals
      refine yR 11 (fun K hK=>?_);rw[if_pos (by rfl)];refine wp_store_mid 139 _ _ (by rfl) W5.heap.size 0 #[.string p,.int .i64 z,.float .f64 (bD z c)] (by rfl) (by rfl) ?_ ?_ ?_ ?_
      ·exact xN.there 3 rfl
      ·exact tN
      ·simp[Value.oneCell']
      refine Mem.named ?_;intro WS hWS;have hW2:WN.setCells W5.heap.size 0 [.string p,.int .i64 z,.float .f64 (bD z c)]=WS:=hWS;have xS:Bx WS W5.heap.size #[.string p,.int .i64 z,.float .f64 (bD z c)] 139:=(by rw[←hW2];exact oK xN rfl);have bW:Below W5.heap.size W5 WS:=(by rw[←hW2];exact Tab.below_setCells (Nat.le_refl _) _ _ bN (Nat.le_refl _));refine hK.out _ _ (hS3 WS bW) (fun hHeld=>?_);clear hK K hWS hW2 xN bN;refine wpAnyH_done (by kernel_rfl) ?_ _;clear hHeld hS0 hS3;have b8:=PN.trans (bW.mono PN.size);have ZX:=HB6.out.below bW;clear bW;have hnb:w2.heap.size≠W5.heap.size:=(by have:=HB6.out.lt;omega);have lS:∀(W':World),Bx W' W5.heap.size #[.string p,.int .i64 z,.float .f64 (bD z c)] 139->W'.rangeAt W5.heap.size 0 [.string p,.int .i64 z,.float .f64 (bD z c)]:=fun W' h=>by have:=h.range;simpa using this
      have rS:=lS WS xS;have Hw:=yH (show #[.string p,.int .i64 z,.float .f64 (bD z c)]=pk cnt (some r)from by show _=#[Value.string r.path,.int .i64 r.size,.float .f64 (rO cnt r)];rw[HRP.out,HZ.out,HNS.out]);have HXS:=yH xS;have Yh:=yH ZX;clear xS ZX;have Gi:=Tryz.underlying139;cases acc with
      | none =>
       have hfo:fo=false:=OG.out.symm;subst hfo;have HST:=yH (show pick (bst cnt) rs (D.take (k+1))=some r from by rw[Jk.out,D6 Bf.out HR.out])
       go_wp2_with (first
        | (refine wpList_load_mid rfl 139 _ (by rfl) W5.heap.size 0 (by rfl) [.string p,.int .i64 z,.float .f64 (bD z c)] _ rS Gi rfl (by kernel_rfl) ?_)
        | (refine wpList_store_mid (by rfl) 139 _ _ (by rfl) w2.heap.size 0 #[.string p,.int .i64 z,.float .f64 (bD z c)] (by rfl) (by rfl) (Yh.out.there 3 rfl) tN (by simp[Value.oneCell']) ?_;refine Mem.named ?_;intro W9 ug))
       have ug:WS.setCells w2.heap.size 0 [.string p,.int .i64 z,.float .f64 (bD z c)]=W9:=ug;have x9:Bx W9 w2.heap.size #[.string p,.int .i64 z,.float .f64 (bD z c)] 139:=(by rw[←ug];exact oK Yh.out rfl);have b9:Below w2.heap.size w2 W9:=(by rw[←ug];exact Tab.below_setCells (Nat.le_refl _) _ _ b8 (Nat.le_refl _));have bF:=yH (show(pick (bst cnt) rs (D.take (k+1))).isSome=true/\Bx W9 w2.heap.size (pk cnt (pick (bst cnt) rs (D.take (k+1)))) 139 from by rw[HST.out,←Hw.out];exact⟨rfl,x9⟩);clear ug x9
       go_wp2_with fail
       go_roundw
       case rel=>exact⟨k+1,by omega,by go_num,true,rfl,bF,b9⟩
       case measure=>simp[intOf];omega
      | some a =>
       have hfo:fo=true:=OG.out.symm;subst hfo;have hpa:=(iM zdM.out);have hsa:=QV.out a hpa.1;have hPa:=yH (comes a.size (cnt a.path) (by omega) (HCN.out a.path)).2;have HPA:=yH (show pk cnt (some a)=#[Value.string a.path,.int .i64 a.size,.float .f64 (rO cnt a)]from rfl);have zbG:Bx WS w2.heap.size #[Value.string a.path,.int .i64 a.size,.float .f64 (rO cnt a)] 139:=Yh.out;have rA:WS.rangeAt w2.heap.size 0 [Value.string a.path,.int .i64 a.size,.float .f64 (rO cnt a)]:=(by have:=zbG.range;simpa using this);have HST:=yH (show pick (bst cnt) rs (D.take (k+1))=if ahead p (bD z c) a.path (rO cnt a)=true then some r else some a from by rw[Jk.out,D6 Bf.out HR.out];show(if ahead r.path (rO cnt r) a.path (rO cnt a)=true then some r else some a)=_;rw[HRP.out,HNS.out]);obtain⟨az,haz⟩:∃az,a.size=az:=⟨_,rfl⟩;obtain⟨ap,hap⟩:∃ap,a.path=ap:=⟨_,rfl⟩;obtain⟨XO,has⟩:∃XO,rO cnt a=XO:=⟨_,rfl⟩;have HAS:=yH (show XO<=Ieee.double.infRung by rw[←has];exact hPa.out);rw[haz,hap,has]at rA;rw[hap,has]at HST;have HA3:=yH (show #[Value.string ap,.int .i64 az,.float .f64 XO]=pk cnt (some a)from by rw[HPA.out,haz,hap,has]);clear hpa hsa hPa HPA zbG haz hap has
       go_wp2_with (first
        | (refine aI (by first|rfl|simp[Region.wanted,yielded]) 139 _ (by rfl) W5.heap.size 0 (by rfl) [.string p,.int .i64 z,.float .f64 (bD z c)] _ rS Gi rfl (by kernel_rfl) ?_)
        | (refine aI (by first|rfl|simp[Region.wanted,yielded]) 139 _ (by rfl) w2.heap.size 0 (by rfl) [.string ap,.int .i64 az,.float .f64 XO] _ rA Gi rfl (by kernel_rfl) ?_))
       refine(zby p ap z az (bD z c) XO WS uN.out HAS.out).mono ?_;rintro e W8 ⟨rfl,b9⟩;have b10:=b8.trans (b9.mono b8.size);obtain⟨BB,BU⟩:∃BB,ahead p (bD z c) ap XO=BB:=⟨_,rfl⟩;rw[BU]at HST;rw[BU];have rS8:=lS W8 (HXS.out.below b9);have ZY:=yH (Yh.out.below b9);clear rS rA BU;cases BB with
       | true =>
        go_wp2_with (first
         | (refine wpList_load_mid rfl 139 _ (by rfl) W5.heap.size 0 (by rfl) [.string p,.int .i64 z,.float .f64 (bD z c)] _ rS8 Gi rfl (by kernel_rfl) ?_)
         | (refine wpList_store_mid (by rfl) 139 _ _ (by rfl) w2.heap.size 0 #[.string p,.int .i64 z,.float .f64 (bD z c)] (by rfl) (by rfl) (ZY.out.there 3 rfl) tN (by simp[Value.oneCell']) ?_;refine Mem.named ?_;intro W9 ug))
        have ug:W8.setCells w2.heap.size 0 [.string p,.int .i64 z,.float .f64 (bD z c)]=W9:=ug;have x9:Bx W9 w2.heap.size #[.string p,.int .i64 z,.float .f64 (bD z c)] 139:=(by rw[←ug];exact oK ZY.out rfl);have b11:Below w2.heap.size w2 W9:=(by rw[←ug];exact Tab.below_setCells (Nat.le_refl _) _ _ b10 (Nat.le_refl _));have bF:=yH (show(pick (bst cnt) rs (D.take (k+1))).isSome=true/\Bx W9 w2.heap.size (pk cnt (pick (bst cnt) rs (D.take (k+1)))) 139 from by rw[HST.out,if_pos trivial,←Hw.out];exact⟨rfl,x9⟩);clear ug x9
        go_wp2_with fail
        go_roundw
        case rel=>exact⟨k+1,by omega,by go_num,true,rfl,bF,b11⟩
        case measure=>simp[intOf];omega
       | false =>
        have bF:=yH (show(pick (bst cnt) rs (D.take (k+1))).isSome=true/\Bx W8 w2.heap.size (pk cnt (pick (bst cnt) rs (D.take (k+1)))) 139 from by rw[HST.out,if_neg (by decide)];exact⟨rfl,ZY.out⟩)
        go_wp2_with fail
        go_roundw
        case rel=>exact⟨k+1,by omega,by go_num,true,rfl,bF,b10⟩
        case measure=>simp[intOf];omega
    ·have hre:gZ rs p≠[]:=fun e=>hu0 (by rw[←HU.out,e];rfl)
     have Bf:=yH (show free rs p=false by unfold free;rw[decide_eq_false hre,Bool.and_false]);have bF:=yH (show(pick (bst cnt) rs (D.take (k+1))).isSome=fo/\Bx w4 w2.heap.size (pk cnt (pick (bst cnt) rs (D.take (k+1)))) 139 from by rw[Jk.out,DZ Bf.out];exact⟨OG.out,HB4.out⟩);have t7:decide (0<u)=true:=decide_eq_true (by omega);clear hre
     go_wp2_with fail
     go_roundw
     case rel=>exact⟨k+1,by omega,by go_num,fo,rfl,bF,SC⟩
     case measure=>simp[intOf];omega
  ·have hkm:m=k:=(by omega);subst hkm;have hI:=HI.out;rw[List.take_of_length_le (by rw[HM.out];exact Nat.le_refl _)]at hI;obtain⟨Kw,hcs3,hl3⟩:∃Kw:List Value,pk cnt (pick (bst cnt) rs D)=Kw.toArray/\Kw.length=3:=⟨(pk cnt (pick (bst cnt) rs D)).toList,by simp,by cases pick (bst cnt) rs D<;>rfl⟩;have wG:=yH hcs3;have OG:=yH hI.1;have h1c:Kw.toArray.all (·.oneCell')=true:=(by rw[←hcs3];cases pick (bst cnt) rs D<;>simp[pk,Z3,Value.oneCell']);have rE:wr.rangeAt w2.heap.size 0 Kw:=(by have:=hI.2.range;rw[hcs3]at this;simpa using this);have x6b:=yH (x6.below br);have Gi:=Tryz.underlying139;have hs3:Kw.toArray.size=3:=(by simpa using hl3);clear hI HI hcs3
   go_wp2_with (first
    | (refine wpList_load_mid rfl 139 _ (by rfl) w2.heap.size 0 (by rfl) Kw _ rE Gi rfl (by rw[hl3];kernel_rfl) ?_)
    | ((refine wpList_store_mid (by rfl) 139 _ _ (by rfl) w.heap.size 0 Kw.toArray (by rfl) (by rfl) (x6b.out.there _ (by rw[hs3];rfl)) (by rw[hs3];exact tN) h1c ?_);refine Mem.named ?_;intro W9 ug))
   have ug:wr.setCells w.heap.size 0 Kw=W9:=ug;have x9:Bx W9 w.heap.size Kw.toArray 139:=(by rw[←ug];exact oK x6b.out hl3.symm);have b9:Below w.heap.size w W9:=(by rw[←ug];exact Tab.below_setCells (Nat.le_refl _) _ _ B (Nat.le_refl _));clear ug
   go_wp2_with fail
   try rw[Exit.noGoto_ret]
   have hlv:=run_loadVar_mid (P:=Tryz.prog) W9 w.heap.size 0 139 Kw _ (by have:=x9.range;simpa using this) Gi rfl (by rw[hl3];kernel_rfl);refine bodyPost_ret (v:=.tuple #[.agg Kw.toArray,.bool fo]) (bT Tryz.results97 rfl hlv rfl) rfl ⟨by rw[wG.out,OG.out],b9⟩
end kU

namespace kU
open Go.RowKit Mem Tr St
open Go.Proofs.YtmmmghpimdfleaaGreatDoor.Own
open Go.Proofs.YtmmmghpimdfleaaGreatDoor.Mp (Mp Fv)
/-- A []sweep.Use in memory. -/
def Uses(S:Nat->Prop)(w:World)(v:Value)(l:List (ByteArray × Int)):Prop :=
 ∃ao cap,v = .slice ao l.length cap/\l.length<=cap/\cap<=maxLen/\(l = []∨∃b off,ao=some ⟨b,off,none⟩/\S b/\∀j (h:j<l.length),w.cell? ⟨b,off+j*2,none⟩=some (.string l[j].1)/\w.cell? ⟨b,off+j*2+1,none⟩=some (.int .i64 l[j].2))
theorem Uses.ag{S:Nat->Prop}{w w':World}{v:Value}{l:List (ByteArray × Int)}(h:Uses S w v l)(ha:Ag S w w'):Uses S w' v l:=by
 obtain⟨ao,cap,hv,hl,hm,hk⟩:=h;exact⟨ao,cap,hv,hl,hm,hk.imp id (fun⟨b,o,e1,e2,e3⟩=>⟨b,o,e1,e2,fun j hj=>⟨ha.cell (p:=⟨b,o+j*2,none⟩) e2 (e3 j hj).1,ha.cell (p:=⟨b,o+j*2+1,none⟩) e2 (e3 j hj).2⟩⟩)⟩
theorem Uses.below{S:Nat->Prop}{w w':World}{v:Value}{l:List (ByteArray × Int)}(h:Uses S w v l)(hb:Below w.heap.size w w'):Uses S w' v l:=h.ag (Ag.of_below hb)
theorem Uses.nil(S:Nat->Prop)(w:World):Uses S w (.slice none 0 0) []:=⟨none,0,rfl,Nat.le_refl _,by unfold maxLen;omega,.inl rfl⟩
theorem SE{S:Nat->Prop}{w:World}{v:Value}{l:List (ByteArray × Int)}(h:Uses S w v l)(hn:0<l.length):∃b off cap,v = .slice (some ⟨b,off,none⟩) l.length cap/\∀j (hj:j<l.length),w.cell? ⟨b,off+j*2,none⟩=some (.string l[j].1)/\w.cell? ⟨b,off+j*2+1,none⟩=some (.int .i64 l[j].2):=by
 obtain⟨ao,cap,rfl,hl,hm,hk⟩:=h;rcases hk with rfl|⟨b,o,rfl,_,e3⟩
 ·simp at hn
 ·exact⟨b,o,cap,rfl,e3⟩
def cntF(us:List (ByteArray × Int)):ByteArray->Int:=us.foldl (fun f x u=>if u=x.1 then x.2 else f u) (fun _=>0)
theorem yO(us:List (ByteArray × Int))(x:ByteArray × Int):cntF (us ++ [x])=fun u=>if u=x.1 then x.2 else cntF us u:=by
 unfold cntF;rw[List.foldl_append];rfl
theorem wQ{us:List (ByteArray × Int)}(h:∀x∈us,x.2<9223372036854775808)(u:ByteArray):cntF us u<9223372036854775808:=by
 have main:∀(us:List (ByteArray × Int)) (f:ByteArray->Int),(∀x∈us,x.2<9223372036854775808)->(∀u,f u<9223372036854775808)->∀u,us.foldl (fun f x u=>if u=x.1 then x.2 else f u) f u<9223372036854775808:=by
  intro us
  induction us with
  | nil=>intro f _ hf u;exact hf u
  | cons x l ih =>
   intro f h hf u;refine ih _ (fun y hy=>h y (List.mem_cons_of_mem _ hy)) (fun u=>?_) u;show(if u=x.1 then x.2 else f u)<_;split
   ·exact h x List.mem_cons_self
   ·exact hf u
 exact main us _ h (fun _=>by decide) u
def Z2:Array Value:=#[.string ⟨#[]⟩,.int .i64 0]
theorem Am:(Tryz.prog.info? 81).map (·.size)=some 2:=by kernel_rfl
/-- The end of a sweep. -/
def Fin(best:Bst)(D:List ByteArray)(want:Int)(rs:List Rec)(s:At):Prop:=∃n,uK best D want ⟨rs,[],0⟩ n=some s/\next best D want s=none
def rH(M F:Nat->Prop)(w:World)(s:Nat)(best:Bst)(D:List ByteArray)(want:Int)(rs:List Rec)(e:Ending)(w':World):Prop :=
 ∃fin v M',Fin best D want rs fin/\e = .returned (.tuple #[v,.int .i64 fin.freed])/\w'.ownsRow w.heap.size 9 1 v fin.out.length (fin.out.map .string)/\Is M' F w' s fin.rs/\Kp M w w'/\∀b,M' b->M b
theorem O8{rs:List Rec}(hs:Small rs)(L:List ByteArray):0<=sizes rs L/\sizes rs L<=1073741824*(L.length:Int):=by
 induction L with
 | nil=>exact⟨Int.le_refl _,by simp[sizes]⟩
 | cons p l ih =>
  rw[sizes,List.length_cons];have h1:0<=uq rs p/\uq rs p<=1073741824:=by
   unfold uq;cases hg:Sp.get Rec.path rs p with
   | none=>exact⟨Int.le_refl _,by decide⟩
   | some r=>exact hs r (Sp.get_some hg).1
  omega
theorem Way.len{rG:List Rec}{D:List ByteArray}{want:Int}{s:At}(w:Way rG D want s):s.out.length<=rG.length:=by
 rw[←List.length_map (f:=Rec.path)];refine fU w.nodup fun p hp=>?_
 obtain⟨r,hr,e⟩:=iT.1 (w.mem p hp).2;exact List.mem_map.2 ⟨r,hr,e⟩
set_option maxRecDepth 20000 in
theorem D7(M F:Nat->Prop)(s:Nat)(rs:List Rec)(rv:Value)(roots:List ByteArray)(uv:Value)(us:List (ByteArray × Int))(want:Int)(w:World)(h:Is M F w s rs)(hn:rs.length<=1048576)(hrise:Sp.bf Rec.path rs)(hbk:∀r∈rs,r.bulk<=4194304)(hsm:Small rs)
 (hr:Strs (fun b=>b<w.heap.size) w rv roots) (hrl:roots.length<=1048576) (hwt:tK rs<=2097152) (hc:∀r∈rs,∀q∈r.refs,aJ.has rs q=true)
 (hu:Uses (fun b=>b<w.heap.size) w uv us) (PR:us.length<=2097152) (hus:∀x∈us,x.1.size<=4194304/\x.2<9223372036854775808) :
 Calls Tryz.prog 47 #[.pointer (some ⟨s,0,none⟩),rv,uv,.int .i64 want] w (rH M F w s (bst (cntF us)) (iE rs roots) want rs):=by
 have hps:∀r∈rs,r.path.size<=4194304:=fun r h=>by have:=hbk r h;unfold Rec.bulk at this;omega
 have HIS:=yH h;have J9:=yH hr;have HU:=yH hu;have YG:=yH hbk;have QV:=yH hsm;have Nu:=yH hus;have Kt:=yH hps;have Ic:=yH hrise;have zbH:=yH (fun(w1:World) (hb:Below w.heap.size w w1)=>zbA M F s rs rv roots w1 (h.below hb) hn ((hr.below hb).sub (S':=fun b=>b<w1.heap.size) (fun b h _=>h)) hrl hwt hc hps);obtain⟨ao,cap,rfl,_,_,_⟩:=hr;obtain⟨m,hm⟩:∃m,us.length=m:=⟨_,rfl⟩;have HM:=yH hm;obtain⟨dL,cap2,rfl,_,_,_⟩:=hu;rw[hm]at HU PR;rw[hm];have mk:(Instr.makeMap 67 none).run Tryz.prog w = .ok (.map (some w.heap.size)) (w.alloc (.map #[] 0)):=run_makeMap _ w;obtain⟨w1,hw1⟩:∃W,w.alloc (.map #[] 0)=W:=⟨_,rfl⟩;have HCM:=yH (show Cm w1 w.heap.size 0 (fun _=>0) by rw[←hw1];exact Cm.made w);have b1:Below w.heap.size w w1:=(by rw[←hw1];exact(Below.refl _ w).alloc (Nat.le_refl _) _);rw[hw1]at mk;clear hw1 hm h hc hps hbk hsm hus hrise hrl hwt
 go_enter Tryz.func47,Tryz.ntmps47
 go_wp2_with fail;clear mk
 go_loopw [12,21] (fun _ i wr=>∃k:Nat,k<=m/\i = .int .i64 k/\Hid (Cm wr w.heap.size k (cntF (us.take k)))/\Below w.heap.size w wr) (fun _ i _=>m-(intOf i).toNat)
 case atStart=>exact⟨0,Nat.zero_le _,rfl,yH HCM.out,b1⟩
 case round =>
  obtain⟨k,hk,rfl,HC,br⟩:=hrel;by_cases hlt:k<m
  ·obtain⟨rb,ro,wJ,nR,hcells⟩:=SE (HU.out.below br) (by rw[HM.out];omega);injection nR with ji gY jk;subst ji;clear gY jk;have hkl:k<us.length:=(by rw[HM.out];exact hlt);obtain⟨gk1,gk2⟩:=hcells k hkl;obtain⟨hz1,hz2⟩:=Nu.out us[k] (List.getElem_mem _);have hsn:=yO (us.take k) us[k];rw[←List.take_succ_eq_append_getElem hkl]at hsn;obtain⟨q,hq⟩:∃q,us[k].1=q:=⟨_,rfl⟩;obtain⟨c,hcc⟩:∃c,us[k].2=c:=⟨_,rfl⟩;rw[hq]at gk1 hz1 hsn;rw[hcc]at gk2 hz2 hsn;have He:=yH hsn;have e0:(0:Int)<=(k:Int):=Int.natCast_nonneg _;have e1:(k:Int)<(m:Int):=(by omega);clear hcells hq hcc hsn hkl;have O9:=yH (show ∀W,(wr.alloc (.cells Z2 81)).setCells wr.heap.size 0 [.string q,.int .i64 c]=W->W.cell? ⟨wr.heap.size,0,none⟩=some (.string q)/\W.cell? ⟨wr.heap.size,1,none⟩=some (.int .i64 c)/\∃w7,(Instr.mapUpdate 67 (.map (some w.heap.size)) (.string q) (.int .i64 c)).run Tryz.prog W = .ok () w7/\Hid (Cm w7 w.heap.size (k+1) (cntF (us.take (k+1)))/\Below w.heap.size w w7)from fun W hW=>by
    have x2:Bx W wr.heap.size #[.string q,.int .i64 c] 81:=(by rw[←hW];exact oK (Bx.new wr Z2 81) rfl);have b2:Below wr.heap.size wr W:=aX hW;obtain⟨w7,hrun,zdO,Kv,hs7⟩:=(HC.out.below b2).store (by unfold maxLen;omega) (k:=q) (by unfold maxLen;omega) c;have XK:=br.trans (b2.mono br.size);refine⟨x2.cell 0,x2.cell 1,w7,hrun,yH ⟨?_,XK.grown Kv XK.size (fun k e=>by cases e;exact Nat.le_refl _)⟩⟩;rw[He.out];exact zdO)
   have XP:(wr.alloc (.cells Z2 81)).there wr.heap.size 0 2:=(Bx.new wr Z2 81).there 2 rfl
   go_wp2_with (refine wpList_store_mid (by rfl) 81 _ _ (by rfl) wr.heap.size 0 #[.string q,.int .i64 c] (by rfl) (by rfl) XP Am (by simp[Value.oneCell']) ?_;refine Mem.named ?_;intro W hW;obtain⟨c0,c1,w7,hrun,HC7⟩:=O9.out W hW;clear hW)
   go_roundw
   case rel=>exact⟨k+1,by omega,by go_num,yH HC7.out.1,HC7.out.2⟩
   case measure=>simp[intOf];omega
  ·have hkm:m=k:=(by omega);subst hkm;have zbI:=yH (show Cm wr w.heap.size m (cntF us)from by have:=HC.out;rw[List.take_of_length_le (by rw[HM.out];exact Nat.le_refl _)]at this;exact this);have hbw:w.heap.size<wr.heap.size:=zbI.out.lt;clear HC
   go_wp2_with fail;refine(zbH.out wr br).mono ?_;rintro e w3 ⟨v3,rfl,ho3,b3⟩;have B3:=br.trans (b3.mono br.size);obtain⟨D,hD⟩:∃D,iE rs roots=D:=⟨_,rfl⟩;rw[hD]at ho3;have hdl:D.length<=1048576:=by
    rw[←hD];have:=xw rs roots rs;unfold iE;omega
   have PO:=yH (show ∀p∈D,p.size<=4194304 from fun p hp=>by
    rw[←hD]at hp;obtain⟨⟨r,hr,e⟩,_⟩:=qM.1 hp;rw[←e];exact Kt.out r hr)
   obtain⟨a3,c3,rfl⟩:=Tab.aO ho3;have HO3:=yH ho3;have zdP:=yH (zbI.out.below b3);have zdQ:=yH (HIS.out.below B3);have HML:=yH (show ∀b,M b∨F b->b<w.heap.size from HIS.out.lt);have Pe:w.heap.size<=w3.heap.size:=B3.size;have QW:=yH (show ∀u,cntF us u<9223372036854775808 from wQ (fun x hx=>(Nu.out x hx).2));have BV:=yH hD;rw[hD];obtain⟨nd,hnd⟩:∃nd,D.length=nd:=⟨_,rfl⟩;have HND:=yH hnd;rw[hnd]at hdl ⊢;clear ho3 hD hnd hlt hk
   go_wp2_with fail;generalize wr=w9 at *
   go_loopw [14,15,16,17] (fun x14 x15 _ _ wr=>∃(fr:Int) (ao:Option Addr) (n c:Nat),x14 = .slice ao n c/\x15 = .int .i64 fr/\Hid (∃(k:Nat) (S:At) (M':Nat->Prop),uK (bst (cntF us)) D want ⟨rs,[],0⟩ k=some S/\S.freed=fr/\n=S.out.length/\wr.ownsRow w3.heap.size 9 1 (.slice ao n c) n (S.out.map .string)/\Is M' F wr s S.rs/\(∀b,M' b->M b)/\Kp M w3 wr)) (fun x14 _ _ _ _=>rs.length+1-Ja.lenOf x14)
   case atStart=>exact⟨0,none,0,0,rfl,rfl,yH ⟨0,⟨rs,[],0⟩,M,rfl,rfl,rfl,World.ownsRow_nil _ _ _ _,zdQ.out,fun _ h=>h,Kp.refl _ _⟩⟩
   case round =>
    obtain⟨fr,xJ,n5,c5,rfl,rfl,HS⟩:=hrel;obtain⟨kk,S,M',hit,hfr,hn5,hown,his,hsub,hkp⟩:=HS.out;have Pg:=way Ic.out hit;have hlen:S.out.length<=rs.length:=Pg.len;have hsum:0<=fr/\fr<=1073741824*1048576:=(by have h1:=O8 QV.out S.out;rw[←Pg.sum,hfr]at h1;have:(S.out.length:Int)<=1048576:=(by omega);omega);have zeS:n5<=1048576:=(by omega);have zeT:n5<=rs.length:=(by omega);have HIT:=yH hit;have Bf:=yH hfr;have HN5:=yH hn5;have HOW:=yH hown;have HI:=yH his;have lM:=yH hsub;have HKP:=yH hkp;have zeU:=yH Pg;have TW:=yH (show S.rs.length<=1048576/\(∀r∈S.rs,r.bulk<=4194304)/\Small S.rs from by
     rw[Pg.left];exact⟨Nat.le_trans (OX _ _) hn,fun r hr=>YG.out r (mP.1 hr).1,fun r hr=>QV.out r (mP.1 hr).1⟩)
    have HCH:=yH (SB M' F s S.rs (.slice a3 nd c3) D w.heap.size m (cntF us) wr his (by have:=TW.out.1;omega) TW.out.2.1 TW.out.2.2 QW.out
     (show Strs (fun b=>b<wr.heap.size) wr (.slice a3 nd c3) D from by
      have h:=Tab.aN HO3.out hkp (fun b hb hm=>by have h1:=(HO3.out.lt b hb).1;have h2:=HML.out b (.inl hm);have h3:=br.size;omega);rw[HND.out]at h;have h2:Strs (fun b=>w9.heap.size<=b) wr (.slice a3 D.length c3) D:=Strs.bU (by rw[HND.out];exact h);rw[HND.out]at h2;exact h2.sub (fun b hb _=>hb)) (by rw[HND.out];exact hdl) PO.out (zdP.out.kp hkp (fun hm=>by have:=HML.out _ (.inl hm);omega)))
    have zdR:w3.heap.size<=wr.heap.size:=hkp.size;clear HS hit hfr hn5 hown his hsub hkp Pg hlen;by_cases hfw:fr<want
    ·have hfw2:decide (fr<want)=true:=decide_eq_true hfw
     go_wp2_with fail;refine HCH.out.mono ?_;rintro e w4 ⟨rfl,b4⟩;obtain⟨pko,hpk⟩:∃x,pick (bst (cntF us)) S.rs D=x:=⟨_,rfl⟩;rw[hpk];have Jk:=yH hpk;have zbJ:=yH (HKP.out.then (Kp.of_below b4:Kp M wr w4));have zbK:=yH (Copy.own_below HOW.out b4);have HI4:=yH (HI.out.below b4);clear hpk;cases pko with
     | none =>
      have hnx:next (bst (cntF us)) D want S=none:=(by unfold next;rw[Bf.out,if_pos hfw,Jk.out]);have XQ:=yH (show ∀W,Below w4.heap.size w4 W->rH M F w s (bst (cntF us)) D want rs (.returned (.tuple #[.slice xJ n5 c5,.int .i64 fr])) W from fun W hb=>by
       have h1:=HN5.out;have h2:=Copy.own_below zbK.out hb;subst h1;exact⟨S,_,M',⟨kk,HIT.out,hnx⟩,by rw[Bf.out],rD h2 Pe,HI4.out.below hb,(Kp.of_below B3:Kp M w w3).then (zbJ.out.then (Kp.of_below hb:Kp M w4 W)),lM.out⟩)
      have hth:(w4.alloc (.cells Z3 139)).there w4.heap.size 0 3:=(Bx.new w4 Z3 139).there 3 rfl;have hz3:Z3.all (·.oneCell')=true:=(by simp[Z3,Value.oneCell']);clear hnx
      go_wp2_with (refine wpList_store_mid (by rfl) 139 _ _ (by rfl) w4.heap.size 0 Z3 (by rfl) (by rfl) hth tN hz3 ?_;refine Mem.named ?_;intro W hW;have HE:=XQ.out W (aX hW);clear hW)
      go_ret2;rw[BV.out];exact HE
     | some r =>
      have hpp:=iM Jk.out;have hnx:next (bst (cntF us)) D want S=some ⟨Sp.cut Rec.path S.rs r.path,S.out ++ [r.path],S.freed+r.size⟩:=(by unfold next;rw[Bf.out,if_pos hfw,Jk.out]);have hfree:=hpp.2.2;unfold free at hfree;rw[Bool.and_eq_true,decide_eq_true_eq]at hfree;have hE:kC S.rs r.path=0:=(by unfold kC;rw[if_pos hfree.1,if_pos hfree.2]);have hCS:F8 S.rs r.path=Sp.cut Rec.path S.rs r.path:=(by unfold F8;rw[if_pos hE]);have hrz:=TW.out.2.2 r hpp.1;have sG:=yH (show uK (bst (cntF us)) D want ⟨rs,[],0⟩ (kk+1)=some ⟨Sp.cut Rec.path S.rs r.path,S.out ++ [r.path],S.freed+r.size⟩from by show(uK _ _ _ _ kk).bind _=_;rw[HIT.out];exact hnx);have F7:=fun W hb=>Le M' F s S.rs r.path W (HI4.out.below hb) (by have:=TW.out.1;omega)
      rw[hE,hCS]at F7;have EK:=yH F7;obtain⟨q,hq⟩:∃q,r.path=q:=⟨_,rfl⟩;obtain⟨z,hz⟩:∃z,r.size=z:=⟨_,rfl⟩;have HQZ:=yH (show r.path=q/\r.size=z from⟨hq,hz⟩);rw[hz]at hrz;have hwz:IntKind.i64.wrap (fr+z)=fr+z:=(by rw[IntKind.wrap_i64];omega);obtain⟨sc,hsc⟩:∃sc,rO (cntF us) r=sc:=⟨_,rfl⟩;rw[show pk (cntF us) (some r)=#[.string q,.int .i64 z,.float .f64 sc] by show #[Value.string r.path,.int .i64 r.size,.float .f64 (rO (cntF us) r)]=_;rw[hq,hz,hsc]];have hth:(w4.alloc (.cells Z3 139)).there w4.heap.size 0 3:=(Bx.new w4 Z3 139).there 3 rfl;have O9:=yH (show ∀W,(w4.alloc (.cells Z3 139)).setCells w4.heap.size 0 [.string q,.int .i64 z,.float .f64 sc]=W->Bx W w4.heap.size #[.string q,.int .i64 z,.float .f64 sc] 139/\Below w4.heap.size w4 W from fun W hW=>⟨by rw[←hW];exact oK (Bx.new w4 Z3 139) rfl,aX hW⟩);clear hpp hnx hfree hE hCS F7 hq hz hsc
      go_wp2_with (refine wpList_store_mid (by rfl) 139 _ _ (by rfl) w4.heap.size 0 #[.string q,.int .i64 z,.float .f64 sc] (by rfl) (by rfl) hth tN (by simp[Value.oneCell']) ?_;refine Mem.named ?_;intro W hW;obtain⟨xW,bW⟩:=O9.out W hW;have XW:=yH xW;have k0:=xW.cell 0;clear hW xW)
      have hcc:=EK.out W bW;rw[HQZ.out.1]at hcc;refine hcc.mono ?_;rintro e w6 ⟨rfl,M2,zbL,Lu,Ur⟩;have hM4:∀b,M' b->b<w3.heap.size:=fun b hb=>Nat.lt_of_lt_of_le (HML.out b (.inl (lM.out b hb))) Pe
      have hnb:¬M' w4.heap.size:=fun hm=>by have h1:=hM4 _ hm;have h2:=b4.size;omega
      have x6:=XW.out.kp Lu hnb;have h0:=x6.cell 0;have SG:=Tab.aN (Copy.own_below zbK.out bW) Lu (fun b hb hm=>by have h1:=(HOW.out.lt b hb).1;have h2:=hM4 b hm;omega);have X6:=yH x6;have zeV:=yH SG;have zdS:=yH ((zbJ.out.then (Kp.of_below bW:Kp M w4 W)).trans Lu (fun _ _ h=>h) (fun i _ h=>lM.out i h));have HI6:=yH zbL;have Us:=yH (show ∀b,M2 b->M b from fun b h=>lM.out b (Ur b h));have zeW:w3.heap.size<=w6.heap.size:=Nat.le_trans (Nat.le_trans zdR b4.size) (Nat.le_trans bW.size Lu.size);have Ko:=yH (show(Value.slice xJ n5 c5).ownBlock≠some w4.heap.size from fun e=>Tab.dw SG x6 (by decide) e);have zdT:=yH (show ∀w8:World,(w6.alloc (.cells #[.string q] 9)).grownBy w8 (Value.slice xJ n5 c5).ownBlock->w8.cell? ⟨w4.heap.size,1,none⟩=some (.int .i64 z)from fun w8 hg=>by
       have h1:=(X6.out.alloc (.cells #[.string q] 9));have h2:Bx w8 w4.heap.size #[.string q,.int .i64 z,.float .f64 sc] 139:=(hg.block w4.heap.size h1.lt (fun e=>Ko.out e.symm)).trans h1;exact h2.cell 1)
      obtain⟨i0,hi,hz0,hz1,hz2⟩:=info_parts Make.bI;clear hcc zbL Lu Ur x6 hnb k0 hth
      go_wp2_with (at_builtin;go_loud (refine wpList_append_own _ rfl _ _ 27 rfl w3.heap.size 9 i0 (.string ⟨#[]⟩) 1 16 Tryz.underlying27 hi hz0 hz1 hz2 rfl (by decide) _ _ _ rfl (SG.alloc _) ⟨w6.heap.size,0,none⟩ 1 1 [.string q] rfl rfl (cell_one_new _ _ _) (by simp[Value.oneCell']) (by unfold maxLen;omega) (by omega) (by simp;omega) ?_;intro v' w8 aV hgrow hnil;obtain⟨g',cap',rfl⟩:=ownsRow_succ aV;have pg:=yH aV;have rM:=yH hgrow;have h81:=zdT.out w8 hgrow;clear aV hgrow hnil))
      have bF:=yH (show ∃(k:Nat) (S:At) (M':Nat->Prop),uK (bst (cntF us)) D want ⟨rs,[],0⟩ k=some S/\S.freed=fr+z/\n5+1=S.out.length/\w8.ownsRow w3.heap.size 9 1 (.slice (some ⟨g',0,none⟩) (n5+1) cap') (n5+1) (S.out.map .string)/\Is M' F w8 s S.rs/\(∀b,M' b->M b)/\Kp M w3 w8 from by
       have zbM:Kp (fun k=>(Value.slice xJ n5 c5).ownBlock=some k) w6 w8:=((Kp.refl _ w6).alloc _).then (Kp.fA rM.out (fun r e _=>e));refine⟨kk+1,_,M2,sG.out,by rw[←Bf.out,←HQZ.out.2],by rw[List.length_append,←HN5.out];rfl,?_,?_,Us.out,?_⟩
       ·show w8.ownsRow _ _ _ _ _ ((S.out ++ [r.path]).map .string);rw[List.map_append,HQZ.out.1];exact pg.out
       ·show Is M2 F w8 s (Sp.cut Rec.path S.rs r.path);rw[HQZ.out.1];exact HI6.out.kp zbM (fun b hb e=>by have h1:=HML.out b (.inl (Us.out b hb));have h2:=(HOW.out.lt b e).1;omega) (fun b hb e=>by have h1:=HML.out b (.inr hb);have h2:=(HOW.out.lt b e).1;omega)
       ·exact zdS.out.trans zbM (fun _ _ h=>h) (fun i h e=>by have h2:=(HOW.out.lt i e).1;omega))
      clear h0 h81 SG
      go_roundw
      case rel=>exact⟨fr+z,_,_,_,rfl,rfl,bF⟩
      case measure=>simp[Ja.lenOf];omega
    ·have hfw2:decide (fr<want)=false:=decide_eq_false hfw;have hnx:next (bst (cntF us)) D want S=none:=(by unfold next;rw[Bf.out,if_neg hfw]);have XQ:=yH (show rH M F w s (bst (cntF us)) D want rs (.returned (.tuple #[.slice xJ n5 c5,.int .i64 fr])) wr from by
      have h1:=HN5.out;have h2:=HOW.out;subst h1;exact⟨S,_,M',⟨kk,HIT.out,hnx⟩,by rw[Bf.out],rD h2 Pe,HI.out,(Kp.of_below B3:Kp M w w3).then HKP.out,lM.out⟩)
     clear hnx
     go_wp2_with fail
     go_ret2;rw[BV.out];exact XQ.out
end kU

namespace kU
open Go.RowKit Mem Tr St
structure Fit(rs:List Rec):Prop where
 len:rs.length<=1048576
 rise:Sp.bf Rec.path rs
 bulk:∀r∈rs,r.bulk<=4194304
 small:Small rs
 wt:tK rs<=2097152
 closed:∀r∈rs,∀q∈r.refs,aJ.has rs q=true
theorem pV{rs:List Rec}(h:Sp.bf Rec.path rs):rs.Nodup:=by
 rw[List.nodup_iff_pairwise_ne];exact List.Pairwise.imp (fun hl e=>by subst e;rw[Sp.lt_irrefl]at hl;cases hl) h
theorem Gj{rG:List Rec}{D:List ByteArray}{want:Int}{s:At}(w:Way rG D want s)(hc:∀r∈rG,∀q∈r.refs,aJ.has rG q=true):∀r∈s.rs,∀q∈r.refs,aJ.has s.rs q=true:=by
 rw[w.left];intro r hr q hq;obtain⟨h1,h2⟩:=mP.1 hr;refine F9.2 ⟨hc r h1 q hq,fun hm=>?_⟩;obtain⟨k,hk,e⟩:=List.mem_iff_getElem.1 hm;have h3:=(w.outs k hk).2;rw[e]at h3;unfold free at h3;rw[Bool.and_eq_true,decide_eq_true_eq]at h3;have h4:r.path∈gZ (wo rG (s.out.take k)) q:=by
  unfold gZ;refine List.mem_map.2 ⟨r,List.mem_filter.2 ⟨mP.2 ⟨h1,fun hx=>h2 (List.mem_of_mem_take hx)⟩,?_⟩,rfl⟩;unfold fE;rw[Bool.and_eq_true,decide_eq_true_eq,List.any_eq_true];exact⟨fun e2=>h2 (by rw[e2];exact hm),q,hq,decide_eq_true rfl⟩
 rw[h3.2]at h4;cases h4
theorem Fit.way{rG:List Rec}(h:Fit rG){D:List ByteArray}{want:Int}{s:At}(w:Way rG D want s):Fit s.rs:=by
 have hsub:∀r∈s.rs,r∈rG:=fun r hr=>by rw[w.left]at hr;exact(mP.1 hr).1
 have Yz:Sp.bf Rec.path s.rs:=(by rw[w.left];exact Sz h.rise _);exact⟨by rw[w.left];exact Nat.le_trans (OX _ _) h.len,Yz,fun r hr=>h.bulk r (hsub r hr),fun r hr=>h.small r (hsub r hr),Nat.le_trans (OH _ (pV Yz) hsub) h.wt,Gj w h.closed⟩
theorem SH{best:Bst}{D:List ByteArray}{want:Int}{rs:List Rec}{s:At}(hr:Sp.bf Rec.path rs)(h:Fin best D want rs s):Way rs D want s:=by
 obtain⟨n,h1,_⟩:=h;exact way hr h1
theorem fin_same{best:Bst}{D:List ByteArray}{want:Int}{rs:List Rec}{s t:At}(h:Fin best D want rs s)(k:Fin best D want rs t):s=t:=by
 obtain⟨n,h1,h2⟩:=h;obtain⟨m,k1,k2⟩:=k;exact Io h1 h2 k1 k2
theorem JK{rc st:Nat->BitVec 32}{l:List Rec}(hb:Op.gJ l<=2097152):Fit (dV rc st [] l):=by
 have hK:=stk rc st l (by omega);have hll:=sK l;exact⟨by have:=hK.len;omega,hK.good.rise,hK.good.bulk,storeClosed.Ph hK.good (fun r hr=>by have:=jy (hK.mem r hr);omega),by have h1:=hK.wt;have h2:=Pj l;omega,hK.good.closed⟩
theorem C9(M F:Nat->Prop)(s:Nat)(rs:List Rec)(rv:Value)(roots:List ByteArray)(uv:Value)(us:List (ByteArray × Int))(want:Int)(w:World)(h:Is M F w s rs)(hf:Fit rs)
 (hr:Strs (fun b=>b<w.heap.size) w rv roots) (hrl:roots.length<=1048576) (hu:Uses (fun b=>b<w.heap.size) w uv us) (PR:us.length<=2097152) (hus:∀x∈us,x.1.size<=4194304/\x.2<9223372036854775808) :
 Calls Tryz.prog 47 #[.pointer (some ⟨s,0,none⟩),rv,uv,.int .i64 want] w (rH M F w s (bst (cntF us)) (iE rs roots) want rs) :=
 D7 M F s rs rv roots uv us want w h hf.len hf.rise hf.bulk hf.small hr hrl hf.wt hf.closed hu PR hus
theorem Uses.sub{S S':Nat->Prop}{w:World}{v:Value}{l:List (ByteArray × Int)}(h:Uses S w v l)(hs:∀b,b<w.heap.size->S b->S' b):Uses S' w v l:=by
 obtain⟨ao,cap,hv,hl,hm,hk⟩:=h;rcases hk with rfl|⟨b,o,e1,e2,e3⟩
 ·exact⟨ao,cap,hv,hl,hm,.inl rfl⟩
 ·by_cases hn:l = []
  ·exact⟨ao,cap,hv,hl,hm,.inl hn⟩
  ·have h0:0<l.length:=List.length_pos_iff.2 hn;exact⟨ao,cap,hv,hl,hm,.inr ⟨b,o,e1,hs b (World.block_lt_of_cell? w _ (e3 0 h0).1) e2,e3⟩⟩
end kU
end Go.Proofs.YtmmmghpimdfleaaGreatDoor
