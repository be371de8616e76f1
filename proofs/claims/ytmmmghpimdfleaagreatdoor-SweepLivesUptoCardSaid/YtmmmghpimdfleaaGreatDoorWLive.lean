/-
  SweepLives: the walk of the law.
-/
import Derived.Test.YtmmmghpimdfleaaGreatDoorFrm
import Derived.Test.YtmmmghpimdfleaaGreatDoorGrpZA
import Derived.Test.YtmmmghpimdfleaaGreatDoorGrpZB
import Derived.Test.YtmmmghpimdfleaaGreatDoorGrpDD
set_option linter.unusedVariables false
set_option linter.unusedSimpArgs false
namespace Go.Proofs.YtmmmghpimdfleaaGreatDoor.sweepLives
open Go.RowKit Mem Tr St Swp DSt
open Go.Proofs.YtmmmghpimdfleaaGreatDoor.Own
open Go.Proofs.YtmmmghpimdfleaaGreatDoor.DSha (rcD stD tabK tabS)
theorem ofInt_eq (z:Int) (h:0<=z):BitVec.ofInt 32 z=BitVec.ofNat 32 z.toNat:=by
 obtain ⟨n,rfl⟩:=Int.eq_ofNat_of_zero_le h;rfl
theorem nonneg_getD:∀ (l:List Int),l.all (fun z=>decide (0<=z))=true->∀j,0<=l.getD j 0
 | [],_,j=>by simp
 | x :: l,h,0=>by simp at h;simpa using h.1
 | x :: l,h,j+1=>by
  simp only [List.all_cons,Bool.and_eq_true] at h
  simpa using nonneg_getD l h.2 j
theorem rc_eq:rcD=Frm.rc:=by
 funext j;unfold DSha.rcD Frm.rc;rw [show Frm.nums Rows.laid_depot_sha_rounds=tabK by kernel_rfl];exact ofInt_eq _ (nonneg_getD _ (by kernel_rfl) j)
theorem st_eq:stD=Frm.st:=by
 funext j;unfold DSha.stD Frm.st;rw [show Frm.nums Rows.laid_depot_sha_start=tabS by kernel_rfl];exact ofInt_eq _ (nonneg_getD _ (by kernel_rfl) j)
set_option maxHeartbeats 8000000 in
set_option maxRecDepth 20000 in
theorem walk (w:World) (hg:Sum.Gl Frm.rc Frm.st w) (v:Value) (l:List Rec) (hr:Op.RecsN (fun b=>b < w.heap.size) w v l) (rv:Value) (roots:List ByteArray) (hro:Strs (fun b=>b < w.heap.size) w rv roots) (hcap:∀n cap,rv = .slice none n cap->cap=0) (hb:Op.bulkR l+2*bulks roots<=2097152) :
 Calls Tryz.prog 8 #[v,rv] w fun e w'=>e = .returned (.bool true)/\Below w.heap.size w w':=by
 have HR:=Lib.hid hr;have HG:=Lib.hid hg;have hbl:Op.bulkR l<=2097152:=(by omega);have hfit:Fit (stockF Frm.rc Frm.st [] l):=fit_stock (by omega);have hK:=stk Frm.rc Frm.st l (by omega);have hsyn:Syn (stockF Frm.rc Frm.st [] l) (stockD Frm.rc Frm.st [] l):=syn_stock l [] [] syn_nil (Sto.good_nil _ _) (fun r h=>by have:=bulkR_mem h;omega);have hST:=stockC v l;rw [rc_eq,st_eq] at hST;obtain ⟨rs,hrs⟩:∃rs,stockF Frm.rc Frm.st [] l=rs:=⟨_,rfl⟩;obtain ⟨ds,hds⟩:∃ds,stockD Frm.rc Frm.st [] l=ds:=⟨_,rfl⟩;have HRS:=Lib.hid hrs;rw [hrs] at hfit hsyn hK;rw [hds] at hsyn hST;have HFIT:=Lib.hid hfit;have HSYN:=Lib.hid hsyn;have HSTK:=Lib.hid (fun W h=>hST W h hbl);have HDN:=Lib.hid (show ds.length<=1048576 by rw [←hsyn.len];exact hfit.len);have HDC:=Lib.hid (hsyn.closed hfit.closed);have HDI:=Lib.hid (show ∀a∈ds,∀b∈ds,a.path=b.path->a=b from fun a ha b hb' he=>Sp.rising_inj hfit.rise ((hsyn.mem a).2 ha) ((hsyn.mem b).2 hb') he);have HDB:=Lib.hid (show ∀x∈ds,x.bulk<=4194304 from fun x hx=>hfit.bulk x ((hsyn.mem x).2 hx));have HRL:=Lib.hid (show roots.length<=1048576 by have:=length_bulks roots;omega);have HRT:=Lib.hid (show ∀W,Below w.heap.size w W->Strs (fun b=>b < W.heap.size) W rv roots from fun W hb=>(hro.below hb).sub (fun b h _=>h));have HBL:=Lib.hid (show Op.bulkR l<=4194304 by omega);obtain ⟨ao,cap,rfl,_,_,_⟩:=hro;obtain ⟨ao3,cap3,rfl,_,_,_⟩:=id hr;clear hr hg hb hfit hrs hds hsyn hST hK hcap hbl;obtain ⟨rv,hrv⟩:∃x,Value.slice ao roots.length cap=x:=⟨_,rfl⟩;rw [hrv] at HRT ⊢;clear hrv
 go_enter Tryz.func8,Tryz.ntmps8
 go_wp2_with fail;refine (stockedC19 Frm.rc Frm.st _ l w HG.out HR.out.recs HBL.out).mono ?_;rintro e w1 ⟨M1,F1,s1,rfl,h1,hMF1,c1⟩;rw [HRS.out] at h1;have H1:=Lib.hid h1;clear h1 hMF1
 go_wp2_with fail;refine (awakeC19 Frm.rc Frm.st w1 (HG.out.below c1)).mono ?_;rintro e w2 ⟨rfl,d2⟩;have c2:=c1.trans (d2.mono c1.size);have H2:=Lib.hid (H1.out.below d2);clear d2 c1 H1
 go_wp2_with fail;refine (HSTK.out w2 ((HR.out.below c2).mono fun b hb=>Nat.lt_of_lt_of_le hb c2.size)).mono ?_;rintro e w3 ⟨v3,rfl,hD3,d3⟩;have c3:=c2.trans (d3.mono c2.size);have HD3:=Lib.hid hD3;have H3:=Lib.hid (H2.out.below d3);clear hD3 d3 c2 H2
 go_wp2_with fail;refine (liveF M1 F1 s1 rs rv roots w3 H3.out HFIT.out (HRT.out w3 c3) HRL.out).mono ?_;rintro e w4 ⟨L1,⟨v4,rfl,ho4,d4⟩,hris4,hm4⟩;have c4:=c3.trans (d4.mono c3.size);have H4:=Lib.hid (H3.out.below d4);have HD4:=Lib.hid (HD3.out.below d4);have HR4:=Lib.hid (Strs.of_own ho4);have HI4:=Lib.hid (And.intro hris4 hm4);clear ho4 hris4 hm4 d4 c3 H3 HD3
 go_wp2_with fail;refine (live19C v3 rv ds roots w4 HD4.out (HRT.out w4 c4) HDN.out HRL.out HDC.out HDI.out HDB.out).mono ?_;rintro e w5 ⟨L2,⟨v5,rfl,ho5,d5⟩,hris5,hm5⟩;have c5:=c4.trans (d5.mono c4.size);have H5:=Lib.hid (H4.out.below d5);have HD5:=Lib.hid (HD4.out.below d5);have HR5:=Lib.hid (Strs.of_own ho5);have HE5:=Lib.hid (show L1=L2 from ris_ext HI4.out.1 hris5 (fun p=>by rw [HI4.out.2,hm5];exact HSYN.out.lives roots p));have HQ:=Lib.hid (HR4.out.below d5);clear ho5 hris5 hm5 d5 c4 H4 HD4 HR4 HI4
 go_wp2_with fail;refine (Texts.texts w5 v4 v5 L1 L2 HQ.out.reads HR5.out.reads).mono ?_;rintro e w6 ⟨rfl,m6⟩;rw [decide_eq_true HE5.out];have d6:Below w5.heap.size w5 w6:=m6.below (Below.refl _ _);have c6:=c5.trans (d6.mono c5.size);have H6:=Lib.hid (H5.out.below d6);have HD6:=Lib.hid (HD5.out.below d6);clear m6 d6 c5 H5 HD5 HR5 HE5 HQ
 go_wp2_with fail;refine (deadF M1 F1 s1 rs rv roots w6 H6.out HFIT.out (HRT.out w6 c6) HRL.out).mono ?_;rintro e w7 ⟨v7,rfl,ho7,d7⟩;have c7:=c6.trans (d7.mono c6.size);have HD7:=Lib.hid (HD6.out.below d7);have HR7:=Lib.hid (Strs.of_own ho7);clear ho7 d7 c6 H6 HD6
 go_wp2_with fail;refine (dead19C v3 rv ds roots w7 HD7.out (HRT.out w7 c7) HDN.out HRL.out HDC.out HDI.out HDB.out).mono ?_;rintro e w8 ⟨all,live,⟨v8,rfl,ho8,d8⟩,hris8,hall,hlive⟩;have c8:=c7.trans (d8.mono c7.size);have HR8:=Lib.hid (Strs.of_own ho8);have HE8:=Lib.hid (show deadL rs roots=deadB all live from dead_same HSYN.out HFIT.out.rise hris8 hall hlive);have HQ:=Lib.hid (HR7.out.below d8);clear ho8 hris8 hall hlive d8 c7 HD7 HR7
 go_wp2_with fail;refine (Texts.texts w8 v7 v8 (deadL rs roots) (deadB all live) HQ.out.reads HR8.out.reads).mono ?_;rintro e w9 ⟨rfl,m9⟩;rw [decide_eq_true HE8.out];have d9:Below w8.heap.size w8 w9:=m9.below (Below.refl _ _);have c9:=c8.trans (d9.mono c8.size)
 go_wp2_with fail
 go_ret;exact ⟨rfl,c9⟩
end Go.Proofs.YtmmmghpimdfleaaGreatDoor.sweepLives
