/-
  sweep.choose: of the dead paths that nothing refers to the one that goes next.
  sweep.Collect and sweep.Plan.
  A store within its bounds; what a sweep leaves of it; Live, Dead and Collect over such a store.
-/
import Derived.Test.YtmmmghpimdfleaaGreatDoorGrpZ
import Derived.Test.YtmmmghpimdfleaaGreatDoorGrpY
import Derived.Test.YtmmmghpimdfleaaGreatDoorGrpX
import Derived.Test.YtmmmghpimdfleaaGreatDoorWOffs
import Derived.WalkMore
import Derived.Test.YtmmmghpimdfleaaGreatDoorWClsd
set_option linter.unusedVariables false
set_option linter.unusedSimpArgs false
namespace Go.Proofs.YtmmmghpimdfleaaGreatDoor.Swp
open Go.RowKit Mem Tr St
open Go.Proofs.YtmmmghpimdfleaaGreatDoor.Own
open Go.Proofs.YtmmmghpimdfleaaGreatDoor.Mp (Mp Fv)
def Z3:Array Value:=#[.string ⟨#[]⟩,.int .i64 0,.float .f64 0]
def sco (cnt:ByteArray->Int) (r:Rec):Nat:=scoreN r.size (cnt r.path)
def bst (cnt:ByteArray->Int):Bst:=fun a b=>ahead a.path (sco cnt a) b.path (sco cnt b)
def pk (cnt:ByteArray->Int):Option Rec->Array Value
 | none=>Z3
 | some r=>#[.string r.path,.int .i64 r.size,.float .f64 (sco cnt r)]
def PostChoose (w:World) (cnt:ByteArray->Int) (acc:Option Rec) (e:Ending) (w':World):Prop:=e = .returned (.tuple #[.agg (pk cnt acc),.bool acc.isSome])/\Below w.heap.size w w'
theorem bx_over {w:World} {b:Nat} {Z:Array Value} {T:TypeId} {cs:List Value} (h:Bx w b Z T) (hz:Z.size=cs.length):Bx (w.setCells b 0 cs) b cs.toArray T:=by
 obtain ⟨zs,hb,hs⟩:=bx_setCells cs 0 _ h;have hr:(w.setCells b 0 cs).rangeAt b 0 cs:=World.rangeAt_setCells_same _ _ _ _ (h.there cs.length hz);have e:zs=cs.toArray:=by
  apply Array.ext
  · simp;omega
  · intro j h1 h2;have hj:j < cs.length:=(by simpa using h2);have h3:=hr j cs[j] (List.getElem?_eq_getElem hj);rw [Nat.zero_add,hb.cell,Array.getElem?_eq_getElem h1] at h3
    simpa using Option.some.inj h3
 rw [←e];exact hb
theorem infoSc:(Tryz.prog.info? 139).map (·.size)=some 3:=by kernel_rfl
theorem step_not {best:Bst} {rs:List Rec} {acc:Option Rec} {p:ByteArray} (h:free rs p=false):stepP best rs acc p=acc:=by unfold stepP;rw [h,if_neg (by decide)]
theorem step_yes {best:Bst} {rs:List Rec} {acc:Option Rec} {p:ByteArray} {r:Rec} (h:free rs p=true) (hg:Sp.get Rec.path rs p=some r):stepP best rs acc p=match acc with
 | none=>some r
 | some a=>if best r a=true then some r else some a:=by
 unfold stepP;rw [h,if_pos rfl,hg];cases acc <;> rfl
set_option maxHeartbeats 8000000 in
set_option maxRecDepth 20000 in
theorem chooseC (M F:Nat->Prop) (s:Nat) (rs:List Rec) (dv:Value) (D:List ByteArray) (bm cn:Nat) (cnt:ByteArray->Int) (w:World) (h:Is M F w s rs) (hn:rs.length<=1048576) (hbk:∀r∈rs,r.bulk<=4194304) (hsm:Small rs) (hcnt:∀u,cnt u < 9223372036854775808)
 (hd:Strs (fun b=>b < w.heap.size) w dv D) (hdl:D.length<=1048576) (hds:∀p∈D,p.size<=4194304) (hm:Cm w bm cn cnt) :
 Calls Tryz.prog 97 #[.pointer (some ⟨s,0,none⟩),dv,.map (some bm)] w (PostChoose w cnt (pick (bst cnt) rs D)):=by
 have HIS:=Lib.hid h;have HD:=Lib.hid hd;have HDS:=Lib.hid hds;have HCM:=Lib.hid hm;have HBK:=Lib.hid hbk;have HSM:=Lib.hid hsm;have HCN:=Lib.hid hcnt;obtain ⟨m,hmm⟩:∃m,D.length=m:=⟨_,rfl⟩;have HM:=Lib.hid hmm;obtain ⟨ao,cap,rfl,_,_,_⟩:=hd;rw [hmm] at HD hdl;rw [hmm];clear h hds hm hbk hsm hmm hcnt
 go_enter Tryz.func97,Tryz.ntmps97
 go_wp2_with fail;refine Mem.named ?_;intro w2 hw2;have x6:Bx w2 w.heap.size Z3 139:=(by rw [←hw2];exact Bx.new w Z3 139);have b2:Below w.heap.size w w2:=(by rw [←hw2];exact (Below.refl _ w).alloc (Nat.le_refl _) _);clear hw2
 go_step3
 go_wp2_with fail;refine Mem.named ?_;intro w3 hw3;have x8:Bx w3 w2.heap.size Z3 139:=(by rw [←hw3];exact Bx.new w2 Z3 139);have b3:Below w2.heap.size w2 w3:=(by rw [←hw3];exact (Below.refl _ w2).alloc (Nat.le_refl _) _);clear hw3
 go_wp2_with fail
 go_step3
 go_wp2_with fail
 go_loopw [9,11,12,13,14,15,16,19,31,34] (fun x9 _ _ _ _ _ _ i _ _ wr=>∃k:Nat,k<=m/\i = .int .i64 k/\∃fo:Bool,x9 = .bool fo/\Hid ((pick (bst cnt) rs (D.take k)).isSome=fo/\Bx wr w2.heap.size (pk cnt (pick (bst cnt) rs (D.take k))) 139)/\Below w2.heap.size w2 wr) (fun _ _ _ _ _ _ _ i _ _ _=>m - (intOf i).toNat)
 case atStart=>exact ⟨0,Nat.zero_le _,rfl,false,rfl,Lib.hid ⟨rfl,x8⟩,b3⟩
 case round =>
  obtain ⟨k,hk,rfl,fo,rfl,HI,br⟩:=hrel;have B:=b2.trans (br.mono b2.size);by_cases hlt:k < m
  · obtain ⟨rb,ro,rcap,hrv,hcells⟩:=strs_at (HD.out.below B) (by rw [HM.out];omega);injection hrv with hrv1 hrv2 hrv3;subst hrv1;clear hrv2 hrv3;have hkl:k < D.length:=(by rw [HM.out];exact hlt);have gk:=hcells k hkl;have hpz:=HDS.out D[k] (List.getElem_mem _);have hpk:=pick_take (bst cnt) rs D k hkl;obtain ⟨p,hp⟩:∃p,D[k]=p:=⟨_,rfl⟩;rw [hp] at gk hpz hpk;have HPK:=Lib.hid hpk;have HPZ:=Lib.hid hpz;obtain ⟨acc,hacc⟩:∃acc,pick (bst cnt) rs (D.take k)=acc:=⟨_,rfl⟩;rw [hacc] at HPK HI;have HACC:=Lib.hid hacc;have e0:(0:Int)<=(k:Int):=Int.natCast_nonneg _;have e1:(k:Int) < (m:Int):=(by omega);clear hcells hp hpk hpz hacc hkl
    go_wp2_with fail;refine (referrersC M F s rs p wr (HIS.out.below B) (by omega)).mono ?_;rintro e w4 ⟨b4,hm4⟩;have br4:=br.trans (b4.mono br.size);have HB4:=Lib.hid (HI.out.2.below b4);have HFO:=Lib.hid HI.out.1;obtain ⟨H,hH⟩:∃H,Sto.has rs p=H:=⟨_,rfl⟩;rw [hH] at hm4;have HH:=Lib.hid hH;clear hH HI;cases H with
    | false =>
     obtain rfl:=hm4;have HFR:=Lib.hid (show free rs p=false by unfold free;rw [HH.out];rfl);have HNEW:=Lib.hid (show (pick (bst cnt) rs (D.take (k+1))).isSome=fo/\Bx w4 w2.heap.size (pk cnt (pick (bst cnt) rs (D.take (k+1)))) 139 from by rw [HPK.out,step_not HFR.out];exact ⟨HFO.out,HB4.out⟩)
     go_wp2_with fail
     go_roundw
     case rel=>exact ⟨k+1,by omega,by go_num,fo,rfl,HNEW,br4⟩
     case measure=>simp [intOf];omega
    | true =>
     obtain ⟨v4,rfl,ho4⟩:=hm4;obtain ⟨u,hu⟩:∃u,(refd rs p).length=u:=⟨_,rfl⟩;obtain ⟨a4,c4,rfl⟩:=Tab.own_len ho4;rw [hu];have HU:=Lib.hid hu;clear ho4 hu;by_cases hu0:u=0
     · subst hu0;have hre:refd rs p = []:=List.eq_nil_of_length_eq_zero HU.out;have HFR:=Lib.hid (show free rs p=true by unfold free;rw [HH.out,hre];rfl);obtain ⟨r,hr⟩:∃r,Sp.get Rec.path rs p=some r:=Option.isSome_iff_exists.1 HH.out;have hrm:=Sp.get_some hr;have HR:=Lib.hid hr;have hsz:=HSM.out r hrm.1;have HRP:=Lib.hid hrm.2;clear hre hrm hr
       go_wp2_with fail;refine (storeOffers.getSome w4 (HIS.out.below (B.trans (b4.mono B.size))) (by omega) HBK.out HR.out).mono ?_;rintro e w5 ⟨oc,hol,hoc,rfl,b5,hrec⟩;obtain ⟨kv,rv,hcs,hh,_,_⟩:=hrec;have HCS:=Lib.hid hcs;have br5:=br4.trans (b5.mono br4.size);clear hcs
       go_wp2_with (refine wpList_store_mid (by rfl) 31 _ _ (by rfl) w5.heap.size 0 oc.toArray (by rfl) (by rfl) ?s4 ?s5 ?s6 ?_;rotate_right;refine Mem.named ?_;intro W5 hW5;have x5:RB W5 w5.heap.size r kv rv:=⟨by have:=stash_bx hW5 (hol.symm);rw [HCS.out] at this;exact this,hh⟩;have k38:=x5.c38;have b6:=stash hW5;clear x5 hW5)
       case s4=>first | exact (Bx.new w5 Ins.zeroRec.cells 31).there 39 rfl | exact (Bx.new w5 Ins.zeroRec.cells 31).there _ (by rw [show oc.toArray.size=39 by simpa using hol];rfl)
       case s5=>first | exact infoEx | (rw [List.size_toArray,hol];kernel_rfl)
       case s6=>first | exact hoc | exact all_oneCell_toArray hoc
       have br6:=br5.trans (b6.mono br5.size);have B6:=b2.trans (br6.mono b2.size);have HB6:=Lib.hid ((HB4.out.below b5).below b6);obtain ⟨z,hz⟩:∃z,r.size=z:=⟨_,rfl⟩;have HZ:=Lib.hid hz;rw [hz] at k38 hsz;obtain ⟨c,hc⟩:∃c,cnt p=c:=⟨_,rfl⟩;have hc9:c < 9223372036854775808:=(by rw [←hc];exact HCN.out p);have hz9:z < 9223372036854775808:=(by omega);have hlk:∀W',Below w.heap.size w W'->(Instr.lookup 67 (.map (some bm)) (.string p) false).run Tryz.prog W' = .ok (.int .i64 c) W':=fun W' hb=>by rw [←hc];exact (HCM.out.below hb).look (by have:=HPZ.out;unfold maxLen;omega)
       have HC:=Lib.hid hc;obtain ⟨rb5,hrb5⟩:∃rb5,w5.heap.size=rb5:=⟨_,rfl⟩;rw [hrb5] at k38 ⊢;have k38l:=World.block_lt_of_cell? W5 _ k38;have hS3:∀W',Below W5.heap.size W5 W'->W'.cell? ⟨rb5,38,none⟩=some (.int .i64 z)/\(Instr.lookup 67 (.map (some bm)) (.string p) false).run Tryz.prog W' = .ok (.int .i64 c) W':=fun W' hb=>⟨(hb.cell (p:=⟨rb5,38,none⟩) k38l).trans k38,hlk W' (B6.trans (hb.mono B6.size))⟩
       have hS0:=hS3 W5.drew (Below.refl _ W5).drew;have HNS:=Lib.hid (show sco cnt r=scoreN z c from by unfold sco;rw [HRP.out,HZ.out,HC.out]);have HSB:=Lib.hid (comes z c hz9 hc9).2;clear hz hc hrb5 hh hol hoc HCS b4 b5 b6 hsz
       go_wp2_with fail;refine wp_region_held_drew (S:=fun W'=>W'.cell? ⟨rb5,38,none⟩=some (.int .i64 z)/\(Instr.lookup 67 (.map (some bm)) (.string p) false).run Tryz.prog W' = .ok (.int .i64 c) W') (by kernel_rfl) hS0 (fun hHeld=>?_);refine wpAnyH_take (i:=0) (v:=?_) rfl (by kernel_rfl) (by kernel_rfl) (by kernel_rfl) (fun _ _ _ h=>h) (Or.inl ⟨by rfl,?_⟩) (by assumption) ?_
       rotate_left
       · (intro w hSw;go_simp;try with_reducible rfl)
       simp only [Act.put,List.setIfInBounds_toArray,List.set_cons_zero,List.set_cons_succ];refine wpAnyH_take (i:=1) (v:=?_) rfl (by kernel_rfl) (by kernel_rfl) (by kernel_rfl) (fun _ _ _ h=>h) (Or.inl ⟨by rfl,?_⟩) (by assumption) ?_
       rotate_left
       · (intro w hSw;go_simp;try with_reducible rfl)
       simp only [Act.put,List.setIfInBounds_toArray,List.set_cons_zero,List.set_cons_succ];refine wpAnyH_take (i:=2) (v:=?_) rfl (by kernel_rfl) (by kernel_rfl) (by kernel_rfl) (fun _ _ _ h=>h) (Or.inl ⟨by rfl,?_⟩) (by assumption) ?_
       rotate_left
       · (intro w hSw;go_simp;try with_reducible rfl)
       simp only [Act.put,List.setIfInBounds_toArray,List.set_cons_zero,List.set_cons_succ];refine wpAnyH_take (i:=3) (v:=?_) rfl (by kernel_rfl) (by kernel_rfl) (by kernel_rfl) (fun _ _ _ h=>h) (Or.inl ⟨by rfl,?_⟩) (by assumption) ?_
       rotate_left
       · (intro w hSw;go_simp;try with_reducible rfl)
       simp only [Act.put,List.setIfInBounds_toArray,List.set_cons_zero,List.set_cons_succ];refine wpAnyH_take (i:=4) (v:=?_) rfl (by kernel_rfl) (by kernel_rfl) (by kernel_rfl) (fun _ _ _ h=>h) (Or.inl ⟨by rfl,?_⟩) (by assumption) ?_
       rotate_left
       · (intro w hSw;go_simp;try with_reducible rfl)
       simp only [Act.put,List.setIfInBounds_toArray,List.set_cons_zero,List.set_cons_succ];refine wpAnyH_take (i:=5) (v:=?_) rfl (by kernel_rfl) (by kernel_rfl) (by kernel_rfl) (fun _ _ _ h=>h) (Or.inl ⟨by rfl,?_⟩) (by assumption) ?_
       rotate_left
       · (intro w hSw;go_simp;try with_reducible rfl)
       simp only [Act.put,List.setIfInBounds_toArray,List.set_cons_zero,List.set_cons_succ];refine wpAnyH_take (i:=6) (v:=?_) rfl (by kernel_rfl) (by kernel_rfl) (by kernel_rfl) (fun _ _ _ h=>h) (Or.inl ⟨by rfl,?_⟩) (by assumption) ?_
       rotate_left
       · (intro w hSw;go_simp;try with_reducible rfl)
       simp only [Act.put,List.setIfInBounds_toArray,List.set_cons_zero,List.set_cons_succ];refine wpAnyH_take (i:=7) (v:=?_) rfl (by kernel_rfl) (by kernel_rfl) (by kernel_rfl) (fun _ _ _ h=>h) (Or.inl ⟨by rfl,?_⟩) (by assumption) ?_
       rotate_left
       · (intro w hSw;go_simp;try with_reducible rfl)
       simp only [Act.put,List.setIfInBounds_toArray,List.set_cons_zero,List.set_cons_succ];refine wpAnyH_ready (rs:=[8,10]) (by kernel_rfl) (by simp) ?_;refine AllReadyH.cons rfl (fun K hK=>?armA) (AllReadyH.cons rfl (fun K hK=>?armB) AllReadyH.nil)
       case' armA =>
        go_simp;refine (scoreC z c W5.drew hz9 hc9).mono ?_;rintro e wg3 ⟨rfl,rfl⟩;refine hK.out _ _ hS0 (fun hHeld=>?_);clear hK K;refine wpAnyH_take (i:=9) (v:=?_) rfl (by kernel_rfl) (by kernel_rfl) (by kernel_rfl) (fun _ _ _ h=>h) (Or.inl ⟨by rfl,?_⟩) (by assumption) ?_
        rotate_left
        · (intro w hSw;go_simp;try with_reducible rfl)
        simp only [Act.put,List.setIfInBounds_toArray,List.set_cons_zero,List.set_cons_succ];refine wpAnyH_ready (rs:=[10]) (by kernel_rfl) (by simp) ?_;refine AllReadyH.cons rfl (fun K hK=>?_) AllReadyH.nil
        go_simp
        change K _ ((W5.drew).alloc (.cells Z3 139))
        obtain ⟨WN,hWN⟩:∃W,(W5.drew).alloc (.cells Z3 139)=W:=⟨_,rfl⟩;have xN:Bx WN W5.heap.size Z3 139:=(by rw [←hWN];exact Bx.new W5.drew Z3 139);have bN:Below W5.heap.size W5 WN:=(by rw [←hWN];exact ((Below.refl _ W5).drew).alloc (Nat.le_refl _) _);rw [hWN];refine hK.out _ _ (hS3 WN bN) (fun hHeld=>?_);clear hK K hWN
       case' armB =>
        go_simp
        change K _ (W5.alloc (.cells Z3 139)).drew
        obtain ⟨WN,hWN⟩:∃W,(W5.alloc (.cells Z3 139)).drew=W:=⟨_,rfl⟩;have xN:Bx WN W5.heap.size Z3 139:=(by rw [←hWN];exact Bx.new W5 Z3 139);have bN:Below W5.heap.size W5 WN:=(by rw [←hWN];exact ((Below.refl _ W5).alloc (Nat.le_refl _) _).drew);rw [hWN];refine hK.out _ _ (hS3 WN bN) (fun hHeld=>?_);clear hK K hWN;refine wpAnyH_ready (rs:=[8]) (by kernel_rfl) (by simp) ?_;refine AllReadyH.cons rfl (fun K hK=>?_) AllReadyH.nil
        go_simp;refine (scoreC z c WN hz9 hc9).mono ?_;rintro e wg3 ⟨rfl,hwg⟩;have hwg:=hwg.symm;subst hwg;refine hK.out _ _ (hS3 WN bN) (fun hHeld=>?_);clear hK K;refine wpAnyH_take (i:=9) (v:=?_) rfl (by kernel_rfl) (by kernel_rfl) (by kernel_rfl) (fun _ _ _ h=>h) (Or.inl ⟨by rfl,?_⟩) (by assumption) ?_
        rotate_left
        · (intro w hSw;go_simp;try with_reducible rfl)
        simp only [Act.put,List.setIfInBounds_toArray,List.set_cons_zero,List.set_cons_succ]
       all_goals
        refine wpAnyH_ready (rs:=[11]) (by kernel_rfl) (by simp) ?_;refine AllReadyH.cons rfl (fun K hK=>?_) AllReadyH.nil;rw [if_pos (by rfl)];refine wp_store_mid 139 _ _ (by rfl) W5.heap.size 0 #[.string p,.int .i64 z,.float .f64 (scoreN z c)] (by rfl) (by rfl) ?_ ?_ ?_ ?_
        · exact xN.there 3 rfl
        · exact infoSc
        · simp [Value.oneCell']
        refine Mem.named ?_;intro WS hWS;have hW2:WN.setCells W5.heap.size 0 [.string p,.int .i64 z,.float .f64 (scoreN z c)]=WS:=hWS;have xS:Bx WS W5.heap.size #[.string p,.int .i64 z,.float .f64 (scoreN z c)] 139:=(by rw [←hW2];exact bx_over xN rfl);have bW:Below W5.heap.size W5 WS:=(by rw [←hW2];exact Tab.below_setCells (Nat.le_refl _) _ _ bN (Nat.le_refl _));refine hK.out _ _ (hS3 WS bW) (fun hHeld=>?_);clear hK K hWS hW2 xN bN;refine wpAnyH_done (by kernel_rfl) ?_ _;clear hHeld hS0 hS3;have b8:=br6.trans (bW.mono br6.size);have hx8:=HB6.out.below bW;clear bW;have hnb:w2.heap.size≠W5.heap.size:=(by have:=HB6.out.lt;omega);have lS:∀ (W':World),Bx W' W5.heap.size #[.string p,.int .i64 z,.float .f64 (scoreN z c)] 139->W'.rangeAt W5.heap.size 0 [.string p,.int .i64 z,.float .f64 (scoreN z c)]:=fun W' h=>by have:=h.range;simpa using this
        have rS:=lS WS xS;have HSC:=Lib.hid (show #[.string p,.int .i64 z,.float .f64 (scoreN z c)]=pk cnt (some r) from by show _=#[Value.string r.path,.int .i64 r.size,.float .f64 (sco cnt r)];rw [HRP.out,HZ.out,HNS.out]);have HXS:=Lib.hid xS;have HX8:=Lib.hid hx8;clear xS hx8;have husc:=Tryz.underlying139;cases acc with
        | none =>
         have hfo:fo=false:=HFO.out.symm;subst hfo;have HST:=Lib.hid (show pick (bst cnt) rs (D.take (k+1))=some r from by rw [HPK.out,step_yes HFR.out HR.out])
         go_wp2_with (first
          | (refine wpList_load_mid rfl 139 _ (by rfl) W5.heap.size 0 (by rfl) [.string p,.int .i64 z,.float .f64 (scoreN z c)] _ rS husc rfl (by kernel_rfl) ?_)
          | (refine wpList_store_mid (by rfl) 139 _ _ (by rfl) w2.heap.size 0 #[.string p,.int .i64 z,.float .f64 (scoreN z c)] (by rfl) (by rfl) (HX8.out.there 3 rfl) infoSc (by simp [Value.oneCell']) ?_;refine Mem.named ?_;intro W9 hW9))
         have hW9:WS.setCells w2.heap.size 0 [.string p,.int .i64 z,.float .f64 (scoreN z c)]=W9:=hW9;have x9:Bx W9 w2.heap.size #[.string p,.int .i64 z,.float .f64 (scoreN z c)] 139:=(by rw [←hW9];exact bx_over HX8.out rfl);have b9:Below w2.heap.size w2 W9:=(by rw [←hW9];exact Tab.below_setCells (Nat.le_refl _) _ _ b8 (Nat.le_refl _));have HNEW:=Lib.hid (show (pick (bst cnt) rs (D.take (k+1))).isSome=true/\Bx W9 w2.heap.size (pk cnt (pick (bst cnt) rs (D.take (k+1)))) 139 from by rw [HST.out,←HSC.out];exact ⟨rfl,x9⟩);clear hW9 x9
         go_wp2_with fail
         go_roundw
         case rel=>exact ⟨k+1,by omega,by go_num,true,rfl,HNEW,b9⟩
         case measure=>simp [intOf];omega
        | some a =>
         have hfo:fo=true:=HFO.out.symm;subst hfo;have hpa:=(pick_some HACC.out);have hsa:=HSM.out a hpa.1;have hPa:=Lib.hid (comes a.size (cnt a.path) (by omega) (HCN.out a.path)).2;have HPA:=Lib.hid (show pk cnt (some a)=#[Value.string a.path,.int .i64 a.size,.float .f64 (sco cnt a)] from rfl);have hx8a:Bx WS w2.heap.size #[Value.string a.path,.int .i64 a.size,.float .f64 (sco cnt a)] 139:=HX8.out;have rA:WS.rangeAt w2.heap.size 0 [Value.string a.path,.int .i64 a.size,.float .f64 (sco cnt a)]:=(by have:=hx8a.range;simpa using this);have HST:=Lib.hid (show pick (bst cnt) rs (D.take (k+1))=if ahead p (scoreN z c) a.path (sco cnt a)=true then some r else some a from by rw [HPK.out,step_yes HFR.out HR.out];show (if ahead r.path (sco cnt r) a.path (sco cnt a)=true then some r else some a)=_;rw [HRP.out,HNS.out]);obtain ⟨az,haz⟩:∃az,a.size=az:=⟨_,rfl⟩;obtain ⟨ap,hap⟩:∃ap,a.path=ap:=⟨_,rfl⟩;obtain ⟨asc,has⟩:∃asc,sco cnt a=asc:=⟨_,rfl⟩;have HAS:=Lib.hid (show asc<=Ieee.double.infRung by rw [←has];exact hPa.out);rw [haz,hap,has] at rA;rw [hap,has] at HST;have HA3:=Lib.hid (show #[Value.string ap,.int .i64 az,.float .f64 asc]=pk cnt (some a) from by rw [HPA.out,haz,hap,has]);clear hpa hsa hPa HPA hx8a haz hap has
         go_wp2_with (first
          | (refine wpList_load_midG (by first | rfl | simp [Region.wanted,yielded]) 139 _ (by rfl) W5.heap.size 0 (by rfl) [.string p,.int .i64 z,.float .f64 (scoreN z c)] _ rS husc rfl (by kernel_rfl) ?_)
          | (refine wpList_load_midG (by first | rfl | simp [Region.wanted,yielded]) 139 _ (by rfl) w2.heap.size 0 (by rfl) [.string ap,.int .i64 az,.float .f64 asc] _ rA husc rfl (by kernel_rfl) ?_))
         refine (bestC p ap z az (scoreN z c) asc WS HSB.out HAS.out).mono ?_;rintro e W8 ⟨rfl,b9⟩;have b10:=b8.trans (b9.mono b8.size);obtain ⟨BB,hBB⟩:∃BB,ahead p (scoreN z c) ap asc=BB:=⟨_,rfl⟩;rw [hBB] at HST;rw [hBB];have rS8:=lS W8 (HXS.out.below b9);have HX9:=Lib.hid (HX8.out.below b9);clear rS rA hBB;cases BB with
         | true =>
          go_wp2_with (first
           | (refine wpList_load_mid rfl 139 _ (by rfl) W5.heap.size 0 (by rfl) [.string p,.int .i64 z,.float .f64 (scoreN z c)] _ rS8 husc rfl (by kernel_rfl) ?_)
           | (refine wpList_store_mid (by rfl) 139 _ _ (by rfl) w2.heap.size 0 #[.string p,.int .i64 z,.float .f64 (scoreN z c)] (by rfl) (by rfl) (HX9.out.there 3 rfl) infoSc (by simp [Value.oneCell']) ?_;refine Mem.named ?_;intro W9 hW9))
          have hW9:W8.setCells w2.heap.size 0 [.string p,.int .i64 z,.float .f64 (scoreN z c)]=W9:=hW9;have x9:Bx W9 w2.heap.size #[.string p,.int .i64 z,.float .f64 (scoreN z c)] 139:=(by rw [←hW9];exact bx_over HX9.out rfl);have b11:Below w2.heap.size w2 W9:=(by rw [←hW9];exact Tab.below_setCells (Nat.le_refl _) _ _ b10 (Nat.le_refl _));have HNEW:=Lib.hid (show (pick (bst cnt) rs (D.take (k+1))).isSome=true/\Bx W9 w2.heap.size (pk cnt (pick (bst cnt) rs (D.take (k+1)))) 139 from by rw [HST.out,if_pos trivial,←HSC.out];exact ⟨rfl,x9⟩);clear hW9 x9
          go_wp2_with fail
          go_roundw
          case rel=>exact ⟨k+1,by omega,by go_num,true,rfl,HNEW,b11⟩
          case measure=>simp [intOf];omega
         | false =>
          have HNEW:=Lib.hid (show (pick (bst cnt) rs (D.take (k+1))).isSome=true/\Bx W8 w2.heap.size (pk cnt (pick (bst cnt) rs (D.take (k+1)))) 139 from by rw [HST.out,if_neg (by decide)];exact ⟨rfl,HX9.out⟩)
          go_wp2_with fail
          go_roundw
          case rel=>exact ⟨k+1,by omega,by go_num,true,rfl,HNEW,b10⟩
          case measure=>simp [intOf];omega
     · have hre:refd rs p≠[]:=fun e=>hu0 (by rw [←HU.out,e];rfl)
       have HFR:=Lib.hid (show free rs p=false by unfold free;rw [decide_eq_false hre,Bool.and_false]);have HNEW:=Lib.hid (show (pick (bst cnt) rs (D.take (k+1))).isSome=fo/\Bx w4 w2.heap.size (pk cnt (pick (bst cnt) rs (D.take (k+1)))) 139 from by rw [HPK.out,step_not HFR.out];exact ⟨HFO.out,HB4.out⟩);have t7:decide (0 < u)=true:=decide_eq_true (by omega);clear hre
       go_wp2_with fail
       go_roundw
       case rel=>exact ⟨k+1,by omega,by go_num,fo,rfl,HNEW,br4⟩
       case measure=>simp [intOf];omega
  · have hkm:m=k:=(by omega);subst hkm;have hI:=HI.out;rw [List.take_of_length_le (by rw [HM.out];exact Nat.le_refl _)] at hI;obtain ⟨cs3,hcs3,hl3⟩:∃cs3:List Value,pk cnt (pick (bst cnt) rs D)=cs3.toArray/\cs3.length=3:=⟨(pk cnt (pick (bst cnt) rs D)).toList,by simp,by cases pick (bst cnt) rs D <;> rfl⟩;have HCS:=Lib.hid hcs3;have HFO:=Lib.hid hI.1;have h1c:cs3.toArray.all (·.oneCell')=true:=(by rw [←hcs3];cases pick (bst cnt) rs D <;> simp [pk,Z3,Value.oneCell']);have rE:wr.rangeAt w2.heap.size 0 cs3:=(by have:=hI.2.range;rw [hcs3] at this;simpa using this);have x6b:=Lib.hid (x6.below br);have husc:=Tryz.underlying139;have hs3:cs3.toArray.size=3:=(by simpa using hl3);clear hI HI hcs3
    go_wp2_with (first
     | (refine wpList_load_mid rfl 139 _ (by rfl) w2.heap.size 0 (by rfl) cs3 _ rE husc rfl (by rw [hl3];kernel_rfl) ?_)
     | ((refine wpList_store_mid (by rfl) 139 _ _ (by rfl) w.heap.size 0 cs3.toArray (by rfl) (by rfl) (x6b.out.there _ (by rw [hs3];rfl)) (by rw [hs3];exact infoSc) h1c ?_);refine Mem.named ?_;intro W9 hW9))
    have hW9:wr.setCells w.heap.size 0 cs3=W9:=hW9;have x9:Bx W9 w.heap.size cs3.toArray 139:=(by rw [←hW9];exact bx_over x6b.out hl3.symm);have b9:Below w.heap.size w W9:=(by rw [←hW9];exact Tab.below_setCells (Nat.le_refl _) _ _ B (Nat.le_refl _));clear hW9
    go_wp2_with fail
    try rw [Exit.noGoto_ret]
    have hlv:=run_loadVar_mid (P:=Tryz.prog) W9 w.heap.size 0 139 cs3 _ (by have:=x9.range;simpa using this) husc rfl (by rw [hl3];kernel_rfl);refine bodyPost_ret (v:=.tuple #[.agg cs3.toArray,.bool fo]) (results_cell21 Tryz.results97 rfl hlv rfl) rfl ⟨by rw [HCS.out,HFO.out],b9⟩
end Go.Proofs.YtmmmghpimdfleaaGreatDoor.Swp

namespace Go.Proofs.YtmmmghpimdfleaaGreatDoor.Swp
open Go.RowKit Mem Tr St
open Go.Proofs.YtmmmghpimdfleaaGreatDoor.Own
open Go.Proofs.YtmmmghpimdfleaaGreatDoor.Mp (Mp Fv)
/-- A []sweep.Use in memory. -/
def Uses (S:Nat->Prop) (w:World) (v:Value) (l:List (ByteArray × Int)):Prop :=
 ∃ao cap,v = .slice ao l.length cap/\l.length<=cap/\cap<=maxLen/\(l = []∨∃b off,ao=some ⟨b,off,none⟩/\S b/\∀j (h:j < l.length),w.cell? ⟨b,off+j*2,none⟩=some (.string l[j].1)/\w.cell? ⟨b,off+j*2+1,none⟩=some (.int .i64 l[j].2))
theorem Uses.ag {S:Nat->Prop} {w w':World} {v:Value} {l:List (ByteArray × Int)} (h:Uses S w v l) (ha:Ag S w w'):Uses S w' v l:=by
 obtain ⟨ao,cap,hv,hl,hm,hk⟩:=h;exact ⟨ao,cap,hv,hl,hm,hk.imp id (fun ⟨b,o,e1,e2,e3⟩=>⟨b,o,e1,e2,fun j hj=>⟨ha.cell (p:=⟨b,o+j*2,none⟩) e2 (e3 j hj).1,ha.cell (p:=⟨b,o+j*2+1,none⟩) e2 (e3 j hj).2⟩⟩)⟩
theorem Uses.below {S:Nat->Prop} {w w':World} {v:Value} {l:List (ByteArray × Int)} (h:Uses S w v l) (hb:Below w.heap.size w w'):Uses S w' v l:=h.ag (Ag.of_below hb)
theorem Uses.nil (S:Nat->Prop) (w:World):Uses S w (.slice none 0 0) []:=⟨none,0,rfl,Nat.le_refl _,by unfold maxLen;omega,.inl rfl⟩
theorem uses_at {S:Nat->Prop} {w:World} {v:Value} {l:List (ByteArray × Int)} (h:Uses S w v l) (hn:0 < l.length):∃b off cap,v = .slice (some ⟨b,off,none⟩) l.length cap/\∀j (hj:j < l.length),w.cell? ⟨b,off+j*2,none⟩=some (.string l[j].1)/\w.cell? ⟨b,off+j*2+1,none⟩=some (.int .i64 l[j].2):=by
 obtain ⟨ao,cap,rfl,hl,hm,hk⟩:=h;rcases hk with rfl | ⟨b,o,rfl,_,e3⟩
 · simp at hn
 · exact ⟨b,o,cap,rfl,e3⟩
def cntF (us:List (ByteArray × Int)):ByteArray->Int:=us.foldl (fun f x u=>if u=x.1 then x.2 else f u) (fun _=>0)
theorem cntF_snoc (us:List (ByteArray × Int)) (x:ByteArray × Int):cntF (us ++ [x])=fun u=>if u=x.1 then x.2 else cntF us u:=by
 unfold cntF;rw [List.foldl_append];rfl
theorem cntF_bound {us:List (ByteArray × Int)} (h:∀x∈us,x.2 < 9223372036854775808) (u:ByteArray):cntF us u < 9223372036854775808:=by
 have main:∀ (us:List (ByteArray × Int)) (f:ByteArray->Int),(∀x∈us,x.2 < 9223372036854775808)->(∀u,f u < 9223372036854775808)->∀u,us.foldl (fun f x u=>if u=x.1 then x.2 else f u) f u < 9223372036854775808:=by
  intro us
  induction us with
  | nil=>intro f _ hf u;exact hf u
  | cons x l ih =>
   intro f h hf u;refine ih _ (fun y hy=>h y (List.mem_cons_of_mem _ hy)) (fun u=>?_) u;show (if u=x.1 then x.2 else f u) < _;split
   · exact h x List.mem_cons_self
   · exact hf u
 exact main us _ h (fun _=>by decide) u
def Z2:Array Value:=#[.string ⟨#[]⟩,.int .i64 0]
theorem infoUse:(Tryz.prog.info? 81).map (·.size)=some 2:=by kernel_rfl
/-- The end of a sweep. -/
def Fin (best:Bst) (D:List ByteArray) (want:Int) (rs:List Rec) (s:At):Prop:=∃n,itN best D want ⟨rs,[],0⟩ n=some s/\next best D want s=none
def PostColl (M F:Nat->Prop) (w:World) (s:Nat) (best:Bst) (D:List ByteArray) (want:Int) (rs:List Rec) (e:Ending) (w':World):Prop :=
 ∃fin v M',Fin best D want rs fin/\e = .returned (.tuple #[v,.int .i64 fin.freed])/\w'.ownsRow w.heap.size 9 1 v fin.out.length (fin.out.map .string)/\Is M' F w' s fin.rs/\Kp M w w'/\∀b,M' b->M b
theorem sizes_le {rs:List Rec} (hs:Small rs) (L:List ByteArray):0<=sizes rs L/\sizes rs L<=1073741824*(L.length:Int):=by
 induction L with
 | nil=>exact ⟨Int.le_refl _,by simp [sizes]⟩
 | cons p l ih =>
  rw [sizes,List.length_cons];have h1:0<=sizeP rs p/\sizeP rs p<=1073741824:=by
   unfold sizeP;cases hg:Sp.get Rec.path rs p with
   | none=>exact ⟨Int.le_refl _,by decide⟩
   | some r=>exact hs r (Sp.get_some hg).1
  omega
theorem Way.len {rs0:List Rec} {D:List ByteArray} {want:Int} {s:At} (w:Way rs0 D want s):s.out.length<=rs0.length:=by
 rw [←List.length_map (f:=Rec.path)];refine nodup_sub w.nodup fun p hp=>?_
 obtain ⟨r,hr,e⟩:=has_iff.1 (w.mem p hp).2;exact List.mem_map.2 ⟨r,hr,e⟩
set_option maxHeartbeats 8000000 in
set_option maxRecDepth 20000 in
theorem collectC (M F:Nat->Prop) (s:Nat) (rs:List Rec) (rv:Value) (roots:List ByteArray) (uv:Value) (us:List (ByteArray × Int)) (want:Int) (w:World) (h:Is M F w s rs) (hn:rs.length<=1048576) (hrise:Sp.Rising Rec.path rs) (hbk:∀r∈rs,r.bulk<=4194304) (hsm:Small rs)
 (hr:Strs (fun b=>b < w.heap.size) w rv roots) (hrl:roots.length<=1048576) (hwt:wt0 rs<=2097152) (hc:∀r∈rs,∀q∈r.refs,Sto.has rs q=true)
 (hu:Uses (fun b=>b < w.heap.size) w uv us) (hul:us.length<=2097152) (hus:∀x∈us,x.1.size<=4194304/\x.2 < 9223372036854775808) :
 Calls Tryz.prog 47 #[.pointer (some ⟨s,0,none⟩),rv,uv,.int .i64 want] w (PostColl M F w s (bst (cntF us)) (deadL rs roots) want rs):=by
 have hps:∀r∈rs,r.path.size<=4194304:=fun r h=>by have:=hbk r h;unfold Rec.bulk at this;omega
 have HIS:=Lib.hid h;have HRO:=Lib.hid hr;have HU:=Lib.hid hu;have HBK:=Lib.hid hbk;have HSM:=Lib.hid hsm;have HUS:=Lib.hid hus;have HPS:=Lib.hid hps;have HRISE:=Lib.hid hrise;have HDEAD:=Lib.hid (fun (w1:World) (hb:Below w.heap.size w w1)=>deadC M F s rs rv roots w1 (h.below hb) hn ((hr.below hb).sub (S':=fun b=>b < w1.heap.size) (fun b h _=>h)) hrl hwt hc hps);obtain ⟨ao,cap,rfl,_,_,_⟩:=hr;obtain ⟨m,hm⟩:∃m,us.length=m:=⟨_,rfl⟩;have HM:=Lib.hid hm;obtain ⟨ao2,cap2,rfl,_,_,_⟩:=hu;rw [hm] at HU hul;rw [hm];have mk:(Instr.makeMap 67 none).run Tryz.prog w = .ok (.map (some w.heap.size)) (w.alloc (.map #[] 0)):=run_makeMap _ w;obtain ⟨w1,hw1⟩:∃W,w.alloc (.map #[] 0)=W:=⟨_,rfl⟩;have HCM:=Lib.hid (show Cm w1 w.heap.size 0 (fun _=>0) by rw [←hw1];exact Cm.made w);have b1:Below w.heap.size w w1:=(by rw [←hw1];exact (Below.refl _ w).alloc (Nat.le_refl _) _);rw [hw1] at mk;clear hw1 hm h hc hps hbk hsm hus hrise hrl hwt
 go_enter Tryz.func47,Tryz.ntmps47
 go_wp2_with fail;clear mk
 go_loopw [12,21] (fun _ i wr=>∃k:Nat,k<=m/\i = .int .i64 k/\Hid (Cm wr w.heap.size k (cntF (us.take k)))/\Below w.heap.size w wr) (fun _ i _=>m - (intOf i).toNat)
 case atStart=>exact ⟨0,Nat.zero_le _,rfl,Lib.hid HCM.out,b1⟩
 case round =>
  obtain ⟨k,hk,rfl,HC,br⟩:=hrel;by_cases hlt:k < m
  · obtain ⟨rb,ro,rcap,hrv,hcells⟩:=uses_at (HU.out.below br) (by rw [HM.out];omega);injection hrv with hrv1 hrv2 hrv3;subst hrv1;clear hrv2 hrv3;have hkl:k < us.length:=(by rw [HM.out];exact hlt);obtain ⟨gk1,gk2⟩:=hcells k hkl;obtain ⟨hz1,hz2⟩:=HUS.out us[k] (List.getElem_mem _);have hsn:=cntF_snoc (us.take k) us[k];rw [←List.take_succ_eq_append_getElem hkl] at hsn;obtain ⟨q,hq⟩:∃q,us[k].1=q:=⟨_,rfl⟩;obtain ⟨c,hcc⟩:∃c,us[k].2=c:=⟨_,rfl⟩;rw [hq] at gk1 hz1 hsn;rw [hcc] at gk2 hz2 hsn;have HSN:=Lib.hid hsn;have e0:(0:Int)<=(k:Int):=Int.natCast_nonneg _;have e1:(k:Int) < (m:Int):=(by omega);clear hcells hq hcc hsn hkl;have HSTEP:=Lib.hid (show ∀W,(wr.alloc (.cells Z2 81)).setCells wr.heap.size 0 [.string q,.int .i64 c]=W->W.cell? ⟨wr.heap.size,0,none⟩=some (.string q)/\W.cell? ⟨wr.heap.size,1,none⟩=some (.int .i64 c)/\∃w7,(Instr.mapUpdate 67 (.map (some w.heap.size)) (.string q) (.int .i64 c)).run Tryz.prog W = .ok () w7/\Hid (Cm w7 w.heap.size (k+1) (cntF (us.take (k+1)))/\Below w.heap.size w w7) from fun W hW=>by
     have x2:Bx W wr.heap.size #[.string q,.int .i64 c] 81:=(by rw [←hW];exact bx_over (Bx.new wr Z2 81) rfl);have b2:Below wr.heap.size wr W:=stash hW;obtain ⟨w7,hrun,hcm7,hg7,hs7⟩:=(HC.out.below b2).store (by unfold maxLen;omega) (k:=q) (by unfold maxLen;omega) c;have br2:=br.trans (b2.mono br.size);refine ⟨x2.cell 0,x2.cell 1,w7,hrun,Lib.hid ⟨?_,br2.grown hg7 br2.size (fun k e=>by cases e;exact Nat.le_refl _)⟩⟩;rw [HSN.out];exact hcm7)
    have hthere:(wr.alloc (.cells Z2 81)).there wr.heap.size 0 2:=(Bx.new wr Z2 81).there 2 rfl
    go_wp2_with (refine wpList_store_mid (by rfl) 81 _ _ (by rfl) wr.heap.size 0 #[.string q,.int .i64 c] (by rfl) (by rfl) hthere infoUse (by simp [Value.oneCell']) ?_;refine Mem.named ?_;intro W hW;obtain ⟨c0,c1,w7,hrun,HC7⟩:=HSTEP.out W hW;clear hW)
    go_roundw
    case rel=>exact ⟨k+1,by omega,by go_num,Lib.hid HC7.out.1,HC7.out.2⟩
    case measure=>simp [intOf];omega
  · have hkm:m=k:=(by omega);subst hkm;have HCM2:=Lib.hid (show Cm wr w.heap.size m (cntF us) from by have:=HC.out;rw [List.take_of_length_le (by rw [HM.out];exact Nat.le_refl _)] at this;exact this);have hbw:w.heap.size < wr.heap.size:=HCM2.out.lt;clear HC
    go_wp2_with fail;refine (HDEAD.out wr br).mono ?_;rintro e w3 ⟨v3,rfl,ho3,b3⟩;have B3:=br.trans (b3.mono br.size);obtain ⟨D,hD⟩:∃D,deadL rs roots=D:=⟨_,rfl⟩;rw [hD] at ho3;have hdl:D.length<=1048576:=by
     rw [←hD];have:=deadTo_len rs roots rs;unfold deadL;omega
    have HDS:=Lib.hid (show ∀p∈D,p.size<=4194304 from fun p hp=>by
     rw [←hD] at hp;obtain ⟨⟨r,hr,e⟩,_⟩:=mem_dead.1 hp;rw [←e];exact HPS.out r hr)
    obtain ⟨a3,c3,rfl⟩:=Tab.own_len ho3;have HO3:=Lib.hid ho3;have HCM3:=Lib.hid (HCM2.out.below b3);have HIS3:=Lib.hid (HIS.out.below B3);have HML:=Lib.hid (show ∀b,M b∨F b->b < w.heap.size from HIS.out.lt);have hszw3:w.heap.size<=w3.heap.size:=B3.size;have HCB:=Lib.hid (show ∀u,cntF us u < 9223372036854775808 from cntF_bound (fun x hx=>(HUS.out x hx).2));have HDD:=Lib.hid hD;rw [hD];obtain ⟨nd,hnd⟩:∃nd,D.length=nd:=⟨_,rfl⟩;have HND:=Lib.hid hnd;rw [hnd] at hdl ⊢;clear ho3 hD hnd hlt hk
    go_wp2_with fail;generalize wr=w9 at *
    go_loopw [14,15,16,17] (fun x14 x15 _ _ wr=>∃ (fr:Int) (ao:Option Addr) (n c:Nat),x14 = .slice ao n c/\x15 = .int .i64 fr/\Hid (∃ (k:Nat) (S:At) (M':Nat->Prop),itN (bst (cntF us)) D want ⟨rs,[],0⟩ k=some S/\S.freed=fr/\n=S.out.length/\wr.ownsRow w3.heap.size 9 1 (.slice ao n c) n (S.out.map .string)/\Is M' F wr s S.rs/\(∀b,M' b->M b)/\Kp M w3 wr)) (fun x14 _ _ _ _=>rs.length+1 - Srtd.lenOf x14)
    case atStart=>exact ⟨0,none,0,0,rfl,rfl,Lib.hid ⟨0,⟨rs,[],0⟩,M,rfl,rfl,rfl,World.ownsRow_nil _ _ _ _,HIS3.out,fun _ h=>h,Kp.refl _ _⟩⟩
    case round =>
     obtain ⟨fr,ao5,n5,c5,rfl,rfl,HS⟩:=hrel;obtain ⟨kk,S,M',hit,hfr,hn5,hown,his,hsub,hkp⟩:=HS.out;have hway:=way HRISE.out hit;have hlen:S.out.length<=rs.length:=hway.len;have hsum:0<=fr/\fr<=1073741824*1048576:=(by have h1:=sizes_le HSM.out S.out;rw [←hway.sum,hfr] at h1;have:(S.out.length:Int)<=1048576:=(by omega);omega);have hn5l:n5<=1048576:=(by omega);have hn5r:n5<=rs.length:=(by omega);have HIT:=Lib.hid hit;have HFR:=Lib.hid hfr;have HN5:=Lib.hid hn5;have HOW:=Lib.hid hown;have HI:=Lib.hid his;have HSUB:=Lib.hid hsub;have HKP:=Lib.hid hkp;have HWAY:=Lib.hid hway;have HSR:=Lib.hid (show S.rs.length<=1048576/\(∀r∈S.rs,r.bulk<=4194304)/\Small S.rs from by
      rw [hway.left];exact ⟨Nat.le_trans (wo_len _ _) hn,fun r hr=>HBK.out r (mem_wo.1 hr).1,fun r hr=>HSM.out r (mem_wo.1 hr).1⟩)
     have HCH:=Lib.hid (chooseC M' F s S.rs (.slice a3 nd c3) D w.heap.size m (cntF us) wr his (by have:=HSR.out.1;omega) HSR.out.2.1 HSR.out.2.2 HCB.out
      (show Strs (fun b=>b < wr.heap.size) wr (.slice a3 nd c3) D from by
       have h:=Tab.own_kp HO3.out hkp (fun b hb hm=>by have h1:=(HO3.out.lt b hb).1;have h2:=HML.out b (.inl hm);have h3:=br.size;omega);rw [HND.out] at h;have h2:Strs (fun b=>w9.heap.size<=b) wr (.slice a3 D.length c3) D:=Strs.of_own (by rw [HND.out];exact h);rw [HND.out] at h2;exact h2.sub (fun b hb _=>hb)) (by rw [HND.out];exact hdl) HDS.out (HCM3.out.kp hkp (fun hm=>by have:=HML.out _ (.inl hm);omega)))
     have hszr:w3.heap.size<=wr.heap.size:=hkp.size;clear HS hit hfr hn5 hown his hsub hkp hway hlen;by_cases hfw:fr < want
     · have hfw2:decide (fr < want)=true:=decide_eq_true hfw
       go_wp2_with fail;refine HCH.out.mono ?_;rintro e w4 ⟨rfl,b4⟩;obtain ⟨pko,hpk⟩:∃x,pick (bst (cntF us)) S.rs D=x:=⟨_,rfl⟩;rw [hpk];have HPK:=Lib.hid hpk;have HKP4:=Lib.hid (HKP.out.then (Kp.of_below b4:Kp M wr w4));have HOW4:=Lib.hid (Copy.own_below HOW.out b4);have HI4:=Lib.hid (HI.out.below b4);clear hpk;cases pko with
       | none =>
        have hnx:next (bst (cntF us)) D want S=none:=(by unfold next;rw [HFR.out,if_pos hfw,HPK.out]);have HEND:=Lib.hid (show ∀W,Below w4.heap.size w4 W->PostColl M F w s (bst (cntF us)) D want rs (.returned (.tuple #[.slice ao5 n5 c5,.int .i64 fr])) W from fun W hb=>by
         have h1:=HN5.out;have h2:=Copy.own_below HOW4.out hb;subst h1;exact ⟨S,_,M',⟨kk,HIT.out,hnx⟩,by rw [HFR.out],row_low3 h2 hszw3,HI4.out.below hb,(Kp.of_below B3:Kp M w w3).then (HKP4.out.then (Kp.of_below hb:Kp M w4 W)),HSUB.out⟩)
        have hth:(w4.alloc (.cells Z3 139)).there w4.heap.size 0 3:=(Bx.new w4 Z3 139).there 3 rfl;have hz3:Z3.all (·.oneCell')=true:=(by simp [Z3,Value.oneCell']);clear hnx
        go_wp2_with (refine wpList_store_mid (by rfl) 139 _ _ (by rfl) w4.heap.size 0 Z3 (by rfl) (by rfl) hth infoSc hz3 ?_;refine Mem.named ?_;intro W hW;have HE:=HEND.out W (stash hW);clear hW)
        go_ret2;rw [HDD.out];exact HE
       | some r =>
        have hpp:=pick_some HPK.out;have hnx:next (bst (cntF us)) D want S=some ⟨Sp.cut Rec.path S.rs r.path,S.out ++ [r.path],S.freed+r.size⟩:=(by unfold next;rw [HFR.out,if_pos hfw,HPK.out]);have hfree:=hpp.2.2;unfold free at hfree;rw [Bool.and_eq_true,decide_eq_true_eq] at hfree;have hE:cutE S.rs r.path=0:=(by unfold cutE;rw [if_pos hfree.1,if_pos hfree.2]);have hCS:cutS S.rs r.path=Sp.cut Rec.path S.rs r.path:=(by unfold cutS;rw [if_pos hE]);have hrz:=HSR.out.2.2 r hpp.1;have HNX:=Lib.hid (show itN (bst (cntF us)) D want ⟨rs,[],0⟩ (kk+1)=some ⟨Sp.cut Rec.path S.rs r.path,S.out ++ [r.path],S.freed+r.size⟩ from by show (itN _ _ _ _ kk).bind _=_;rw [HIT.out];exact hnx);have HCUT:=fun W hb=>cutC M' F s S.rs r.path W (HI4.out.below hb) (by have:=HSR.out.1;omega)
        rw [hE,hCS] at HCUT;have HCC:=Lib.hid HCUT;obtain ⟨q,hq⟩:∃q,r.path=q:=⟨_,rfl⟩;obtain ⟨z,hz⟩:∃z,r.size=z:=⟨_,rfl⟩;have HQZ:=Lib.hid (show r.path=q/\r.size=z from ⟨hq,hz⟩);rw [hz] at hrz;have hwz:IntKind.i64.wrap (fr+z)=fr+z:=(by rw [IntKind.wrap_i64];omega);obtain ⟨sc,hsc⟩:∃sc,sco (cntF us) r=sc:=⟨_,rfl⟩;rw [show pk (cntF us) (some r)=#[.string q,.int .i64 z,.float .f64 sc] by show #[Value.string r.path,.int .i64 r.size,.float .f64 (sco (cntF us) r)]=_;rw [hq,hz,hsc]];have hth:(w4.alloc (.cells Z3 139)).there w4.heap.size 0 3:=(Bx.new w4 Z3 139).there 3 rfl;have HSTEP:=Lib.hid (show ∀W,(w4.alloc (.cells Z3 139)).setCells w4.heap.size 0 [.string q,.int .i64 z,.float .f64 sc]=W->Bx W w4.heap.size #[.string q,.int .i64 z,.float .f64 sc] 139/\Below w4.heap.size w4 W from fun W hW=>⟨by rw [←hW];exact bx_over (Bx.new w4 Z3 139) rfl,stash hW⟩);clear hpp hnx hfree hE hCS HCUT hq hz hsc
        go_wp2_with (refine wpList_store_mid (by rfl) 139 _ _ (by rfl) w4.heap.size 0 #[.string q,.int .i64 z,.float .f64 sc] (by rfl) (by rfl) hth infoSc (by simp [Value.oneCell']) ?_;refine Mem.named ?_;intro W hW;obtain ⟨xW,bW⟩:=HSTEP.out W hW;have XW:=Lib.hid xW;have k0:=xW.cell 0;clear hW xW)
        have hcc:=HCC.out W bW;rw [HQZ.out.1] at hcc;refine hcc.mono ?_;rintro e w6 ⟨rfl,M2,his6,kp6,hsub6⟩;have hM4:∀b,M' b->b < w3.heap.size:=fun b hb=>Nat.lt_of_lt_of_le (HML.out b (.inl (HSUB.out b hb))) hszw3
        have hnb:¬M' w4.heap.size:=fun hm=>by have h1:=hM4 _ hm;have h2:=b4.size;omega
        have x6:=XW.out.kp kp6 hnb;have h0:=x6.cell 0;have how6:=Tab.own_kp (Copy.own_below HOW4.out bW) kp6 (fun b hb hm=>by have h1:=(HOW.out.lt b hb).1;have h2:=hM4 b hm;omega);have X6:=Lib.hid x6;have HOW6:=Lib.hid how6;have HKP6:=Lib.hid ((HKP4.out.then (Kp.of_below bW:Kp M w4 W)).trans kp6 (fun _ _ h=>h) (fun i _ h=>HSUB.out i h));have HI6:=Lib.hid his6;have HSUB6:=Lib.hid (show ∀b,M2 b->M b from fun b h=>HSUB.out b (hsub6 b h));have hsz6:w3.heap.size<=w6.heap.size:=Nat.le_trans (Nat.le_trans hszr b4.size) (Nat.le_trans bW.size kp6.size);have HNE:=Lib.hid (show (Value.slice ao5 n5 c5).ownBlock≠some w4.heap.size from fun e=>Tab.own_box how6 x6 (by decide) e);have HARM:=Lib.hid (show ∀w8:World,(w6.alloc (.cells #[.string q] 9)).grownBy w8 (Value.slice ao5 n5 c5).ownBlock->w8.cell? ⟨w4.heap.size,1,none⟩=some (.int .i64 z) from fun w8 hg=>by
         have h1:=(X6.out.alloc (.cells #[.string q] 9));have h2:Bx w8 w4.heap.size #[.string q,.int .i64 z,.float .f64 sc] 139:=(hg.block w4.heap.size h1.lt (fun e=>HNE.out e.symm)).trans h1;exact h2.cell 1)
        obtain ⟨i0,hi,hz0,hz1,hz2⟩:=info_parts Make.infoStr;clear hcc his6 kp6 hsub6 x6 hnb k0 hth
        go_wp2_with (at_builtin;go_loud (refine wpList_append_own _ rfl _ _ 27 rfl w3.heap.size 9 i0 (.string ⟨#[]⟩) 1 16 Tryz.underlying27 hi hz0 hz1 hz2 rfl (by decide) _ _ _ rfl (how6.alloc _) ⟨w6.heap.size,0,none⟩ 1 1 [.string q] rfl rfl (cell_one_new _ _ _) (by simp [Value.oneCell']) (by unfold maxLen;omega) (by omega) (by simp;omega) ?_;intro v' w8 hown8 hgrow hnil;obtain ⟨g',cap',rfl⟩:=ownsRow_succ hown8;have HN8:=Lib.hid hown8;have HG8:=Lib.hid hgrow;have h81:=HARM.out w8 hgrow;clear hown8 hgrow hnil))
        have HNEW:=Lib.hid (show ∃ (k:Nat) (S:At) (M':Nat->Prop),itN (bst (cntF us)) D want ⟨rs,[],0⟩ k=some S/\S.freed=fr+z/\n5+1=S.out.length/\w8.ownsRow w3.heap.size 9 1 (.slice (some ⟨g',0,none⟩) (n5+1) cap') (n5+1) (S.out.map .string)/\Is M' F w8 s S.rs/\(∀b,M' b->M b)/\Kp M w3 w8 from by
         have hkp8:Kp (fun k=>(Value.slice ao5 n5 c5).ownBlock=some k) w6 w8:=((Kp.refl _ w6).alloc _).then (Kp.of_grown HG8.out (fun r e _=>e));refine ⟨kk+1,_,M2,HNX.out,by rw [←HFR.out,←HQZ.out.2],by rw [List.length_append,←HN5.out];rfl,?_,?_,HSUB6.out,?_⟩
         · show w8.ownsRow _ _ _ _ _ ((S.out ++ [r.path]).map .string);rw [List.map_append,HQZ.out.1];exact HN8.out
         · show Is M2 F w8 s (Sp.cut Rec.path S.rs r.path);rw [HQZ.out.1];exact HI6.out.kp hkp8 (fun b hb e=>by have h1:=HML.out b (.inl (HSUB6.out b hb));have h2:=(HOW.out.lt b e).1;omega) (fun b hb e=>by have h1:=HML.out b (.inr hb);have h2:=(HOW.out.lt b e).1;omega)
         · exact HKP6.out.trans hkp8 (fun _ _ h=>h) (fun i h e=>by have h2:=(HOW.out.lt i e).1;omega))
        clear h0 h81 how6
        go_roundw
        case rel=>exact ⟨fr+z,_,_,_,rfl,rfl,HNEW⟩
        case measure=>simp [Srtd.lenOf];omega
     · have hfw2:decide (fr < want)=false:=decide_eq_false hfw;have hnx:next (bst (cntF us)) D want S=none:=(by unfold next;rw [HFR.out,if_neg hfw]);have HEND:=Lib.hid (show PostColl M F w s (bst (cntF us)) D want rs (.returned (.tuple #[.slice ao5 n5 c5,.int .i64 fr])) wr from by
        have h1:=HN5.out;have h2:=HOW.out;subst h1;exact ⟨S,_,M',⟨kk,HIT.out,hnx⟩,by rw [HFR.out],row_low3 h2 hszw3,HI.out,(Kp.of_below B3:Kp M w w3).then HKP.out,HSUB.out⟩)
       clear hnx
       go_wp2_with fail
       go_ret2;rw [HDD.out];exact HEND.out
end Go.Proofs.YtmmmghpimdfleaaGreatDoor.Swp

namespace Go.Proofs.YtmmmghpimdfleaaGreatDoor.Swp
open Go.RowKit Mem Tr St
structure Fit (rs:List Rec):Prop where
 len:rs.length<=1048576
 rise:Sp.Rising Rec.path rs
 bulk:∀r∈rs,r.bulk<=4194304
 small:Small rs
 wt:wt0 rs<=2097152
 closed:∀r∈rs,∀q∈r.refs,Sto.has rs q=true
theorem fit_stock {rc st:Nat->BitVec 32} {l:List Rec} (hb:Op.bulkR l<=2097152):Fit (stockF rc st [] l):=by
 have hK:=stk rc st l (by omega);have hll:=bulkR_len l;exact ⟨by have:=hK.len;omega,hK.good.rise,hK.good.bulk,storeClosed.small_of hK.good (fun r hr=>by have:=bulkR_mem (hK.mem r hr);omega),by have h1:=hK.wt;have h2:=bulkR_wt l;omega,hK.good.closed⟩
theorem Fit.paths {rs:List Rec} (h:Fit rs):∀r∈rs,r.path.size<=4194304:=fun r hr=>by have:=h.bulk r hr;unfold Rec.bulk at this;omega
theorem liveF (M F:Nat->Prop) (s:Nat) (rs:List Rec) (rv:Value) (roots:List ByteArray) (w:World) (h:Is M F w s rs) (hf:Fit rs) (hr:Strs (fun b=>b < w.heap.size) w rv roots) (hrl:roots.length<=1048576) :
 Calls Tryz.prog 43 #[.pointer (some ⟨s,0,none⟩),rv] w (PostLive w rs roots):=liveC M F s rs rv roots w h hf.len hr hrl hf.wt hf.closed hf.paths
theorem deadF (M F:Nat->Prop) (s:Nat) (rs:List Rec) (rv:Value) (roots:List ByteArray) (w:World) (h:Is M F w s rs) (hf:Fit rs) (hr:Strs (fun b=>b < w.heap.size) w rv roots) (hrl:roots.length<=1048576) :
 Calls Tryz.prog 45 #[.pointer (some ⟨s,0,none⟩),rv] w (PostTexts w (deadL rs roots)):=deadC M F s rs rv roots w h hf.len hr hrl hf.wt hf.closed hf.paths
end Go.Proofs.YtmmmghpimdfleaaGreatDoor.Swp
