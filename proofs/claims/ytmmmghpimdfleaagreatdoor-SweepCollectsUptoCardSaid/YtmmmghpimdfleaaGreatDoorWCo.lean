/-
  SweepCollects: the walk of the law (printed by tools/zek.py).
-/
import Derived.Test.YtmmmghpimdfleaaGreatDoorTk
import Derived.Test.YtmmmghpimdfleaaGreatDoorFrm
import Derived.Test.YtmmmghpimdfleaaGreatDoorGrpZB
import Derived.Test.YtmmmghpimdfleaaGreatDoorGrpDF
import Derived.Test.YtmmmghpimdfleaaGreatDoorWLive
set_option linter.unusedVariables false
set_option linter.unusedSimpArgs false
namespace Go.Proofs.YtmmmghpimdfleaaGreatDoor.sweepCollects
open Go.RowKit Mem Tr St kU uI
open Go.Proofs.YtmmmghpimdfleaaGreatDoor.Own
open Go.Proofs.YtmmmghpimdfleaaGreatDoor.kD (dZ iZ)
theorem PD{rc st:Nat->BitVec 32}{r:Rec}(h:aJ.bP rc st r=0):r.path≠⟨#[]⟩:=fun e=>by
 have h1:Pre.aF (⟨#[]⟩:ByteArray)≠0:=(by decide +kernel);unfold aJ.bP at h;rw[e,if_neg h1]at h;exact h1 h
theorem SX{rc st:Nat->BitVec 32}{rs ds:List Rec}(hs:o8 rs ds)(hf:Fit rs)(hg:aJ.Good rc st rs)(hnd:ds.Nodup):Jj ds :=
 ⟨hnd,fun a ha b hb he=>Sp.lW hf.rise ((hs.mem a).2 ha) ((hs.mem b).2 hb) he,fun x hx=>hf.bulk x ((hs.mem x).2 hx),fun x hx=>hf.small x ((hs.mem x).2 hx),fun x hx=>PD (hg.valid x ((hs.mem x).2 hx))⟩
theorem fU(ds:List Rec):∀rs:List Rec,rs.Nodup->(∀x∈rs,x∈ds)->ds.length<=rs.length->ds.Nodup:=by
 induction ds with
 | nil=>intro rs _ _ _;exact List.nodup_nil
 | cons d t ih =>
  intro rs hn hs hl;rw[List.length_cons]at hl;by_cases hd:d∈t
  ·have h1:rs.length<=t.length:=iL hn (fun x hx=>by
    rcases List.mem_cons.1 (hs x hx)with h|h
    ·exact h▸hd
    ·exact h)
   omega
  ·refine List.nodup_cons.2 ⟨hd,ih (rs.erase d) (hn.sublist List.erase_sublist) (fun x hx=>?_) ?_⟩
   ·have h2:=(List.Nodup.mem_erase_iff hn).1 hx;rcases List.mem_cons.1 (hs x h2.2)with h|h
    ·exact absurd h h2.1
    ·exact h
   ·rw[List.length_erase];split<;>omega
theorem Gy{rs ds:List Rec}(hs:o8 rs ds)(hr:rs.Nodup):ds.Nodup:=fU ds rs hr (fun x hx=>(hs.mem x).1 hx) (by rw[hs.len];exact Nat.le_refl _)
theorem Ed{rs ds:List Rec}(hs:o8 rs ds)(hr:Sp.bf Rec.path rs):∀r∈ds,Sp.get Rec.path rs r.path=some r:=fun r hr2=>Sp.get_of_mem hr ((hs.mem r).2 hr2)
set_option maxHeartbeats 8000000 in
set_option maxRecDepth 20000 in
theorem walk(w:World)(hg:Sum.Gl oG.rc oG.st w)(v:Value)(l:List Rec)(hr:Op.jQ (fun b=>b<w.heap.size) w v l)(roots:List ByteArray)(us:List (ByteArray × Int))(want:Int)(rv uv:Value)(hj:Op.Uw w [rv,uv,.int .i64 want] roots us want rv uv)(hb:Op.gJ l+2*(aB roots+Op.oh us)<=2097152) :
 Calls Tryz.prog 13 #[v,.agg #[rv,uv,.int .i64 want]] w fun e w'=>e = .returned (.bool true)/\Below w.heap.size w w':=by
 have HR:=yH hr;have HG:=yH hg;have HJ:=yH hj;have hbl:Op.gJ l<=2097152:=(by omega);have hfit:Fit (dV oG.rc oG.st [] l):=JK (by omega);have hK:=stk oG.rc oG.st l (by omega);have qW:o8 (dV oG.rc oG.st [] l) (jh oG.rc oG.st [] l):=I8 l [] [] QB (aJ.Dt _ _) (fun r h=>by have:=jy h;omega);have hST:=VT v l;rw[sweepLives.zbV,sweepLives.zbW]at hST;obtain⟨rs,hrs⟩:∃rs,dV oG.rc oG.st [] l=rs:=⟨_,rfl⟩;obtain⟨ds,hds⟩:∃ds,jh oG.rc oG.st [] l=ds:=⟨_,rfl⟩;have HRS:=yH hrs;rw[hrs]at hfit qW hK;rw[hds]at qW hST;have Ee:=yH hfit;have Yc:=yH qW;have zdZ:=yH (fun W h=>hST W h hbl);have zbX:=yH (SX qW hfit hK.good (Gy qW (pV hfit.rise)));have vG:=yH (show roots.length<=1048576 by have:=dI roots;omega);have TV:=yH (show us.length<=2097152 by have:=Op.JQ us;omega);have Nu:=yH (show ∀x∈us,x.1.size<=4194304/\x.2<9223372036854775808 from fun x hx=>⟨by have:=Op.JR hx;omega,hj.cnt x hx⟩);have HRT:=yH (show ∀W,Below w.heap.size w W->Strs (fun b=>b<W.heap.size) W rv roots from fun W hb=>(HJ.out.roots.below hb).sub (fun b h _=>h));have zbY:=yH (show ∀W,Below w.heap.size w W->Uses (fun b=>b<W.heap.size) W uv us from fun W hb=>(HJ.out.uses.below hb).sub (fun b h _=>h));have Qu:=yH (show Op.gJ l<=4194304 by omega);obtain⟨ao,cap,rfl,_,_,_⟩:=hj.roots;obtain⟨dL,cap2,rfl,_,_,_⟩:=hj.uses;obtain⟨ve,cap3,rfl,_,_,_⟩:=id hr;clear hr hg hb hfit hrs hds qW hST hK hbl hj;obtain⟨rv,nR⟩:∃x,Value.slice ao roots.length cap=x:=⟨_,rfl⟩;obtain⟨uv,huv⟩:∃x,Value.slice dL us.length cap2=x:=⟨_,rfl⟩;rw[nR]at HJ HRT ⊢
 rw[huv]at HJ zbY ⊢;clear nR huv
 go_enter Tryz.func13,Tryz.ntmps13
 go_wp2_with fail;refine ae fun w0 hw0=>?_
 obtain⟨b0,x0⟩:=af hw0;have X0:=yH (show Bx w0 w.heap.size #[rv,uv,.int .i64 want] 74 from x0);clear hw0 x0;refine(Gm oG.rc oG.st _ l w0 (HG.out.below b0) ((HR.out.recs.below b0).mono fun b h=>Nat.lt_of_lt_of_le h b0.size) Qu.out).mono ?_;rintro e w1 ⟨M1,F1,s1,rfl,h1,zbZ,c1⟩;rw[HRS.out]at h1;have H1:=yH h1;have Vy:=yH zbZ;have Eh:=yH (show ∀b,M1 b∨F1 b->b<w1.heap.size from h1.lt);clear h1 zbZ
 go_wp2_with fail;refine(Pq oG.rc oG.st w1 (HG.out.below (b0.trans (c1.mono b0.size)))).mono ?_;rintro e w2 ⟨rfl,d2⟩;have c2:=c1.trans (d2.mono c1.size);have H2:=yH (H1.out.below d2);have HZ2:=yH d2.size;clear d2 c1 H1
 go_wp2_with fail;have bc2:=b0.trans (c2.mono b0.size);refine(zdZ.out w2 ((HR.out.below bc2).mono fun b hb=>Nat.lt_of_lt_of_le hb bc2.size)).mono ?_;rintro e w3 ⟨v3,rfl,hD3,d3⟩;have c3:=c2.trans (d3.mono c2.size);have HD3:=yH hD3;have H3:=yH (H2.out.below d3);have GX:=yH (show ∀W,Below w0.heap.size w0 W->W.cell? ⟨w.heap.size,0,none⟩=some rv/\W.cell? ⟨w.heap.size,1,none⟩=some uv/\W.cell? ⟨w.heap.size,2,none⟩=some (.int .i64 want)from fun W hb=>by
  have h:=X0.out.below hb;exact⟨h.cell 0,h.cell 1,h.cell 2⟩)
 have HUT:=yH (show ∀W,Below w0.heap.size w0 W->Uses (fun b=>b<W.heap.size) W uv us from fun W hb=>zbY.out W (b0.trans (hb.mono b0.size)));have HZ3:=yH d3.size;clear hD3 c2 H2;have c3d:Below w0.heap.size w0 w3.drew:=c3.drew;have hS3:=GX.out w3.drew c3d
 go_wp2_with fail;refine wp_region_held_drew (S:=fun W=>W.cell? ⟨w.heap.size,0,none⟩=some rv/\W.cell? ⟨w.heap.size,1,none⟩=some uv/\W.cell? ⟨w.heap.size,2,none⟩=some (.int .i64 want)) (by kernel_rfl) hS3 (fun hHeld=>?_);refine yT 0 ?_ (hy:=by intro w hSw;obtain⟨s0,s1,s2⟩:=hSw;go_simp;try with_reducible rfl);refine yT 1 ?_ (hy:=by intro w hSw;obtain⟨s0,s1,s2⟩:=hSw;go_simp;try with_reducible rfl);refine yT 2 ?_ (hy:=by intro w hSw;obtain⟨s0,s1,s2⟩:=hSw;go_simp;try with_reducible rfl);refine yT 3 ?_ (hy:=by intro w hSw;obtain⟨s0,s1,s2⟩:=hSw;go_simp;try with_reducible rfl);refine yT 4 ?_ (hy:=by intro w hSw;obtain⟨s0,s1,s2⟩:=hSw;go_simp;try with_reducible rfl);refine yT 6 ?_ (hy:=by intro w hSw;obtain⟨s0,s1,s2⟩:=hSw;go_simp;try with_reducible rfl);refine yT 7 ?_ (hy:=by intro w hSw;obtain⟨s0,s1,s2⟩:=hSw;go_simp;try with_reducible rfl);have Ws:=yH (Wn uv us w3.drew (HUT.out w3.drew c3d) TV.out);refine yR 5 (fun K hK=>?_)
 go_simp
 go_at_call 54;refine Ws.out.mono ?_;rintro e w4 ⟨u4,rfl,hU4,d4⟩;have D4:Below w3.heap.size w3 w4:=Copy.ax d4;have c4:=c3.trans (D4.mono c3.size);have hS4:=GX.out w4 c4;have HU4:=yH (Uses.sub hU4 (S':=fun b=>b<w4.heap.size) (fun b _ h=>h.2));have HCD:=yH (FC w2.heap.size v3 rv u4 rs ds roots us want w4 (Nat.le_trans d3.size D4.size) (HD3.out.below D4) Yc.out Ee.out zbX.out (HRT.out w4 (b0.trans (c4.mono b0.size))) vG.out HU4.out TV.out Nu.out);refine hK.out _ _ hS4 (fun hHeld=>?_);clear hK K hU4 d4;refine yR 8 (fun K hK=>?_)
 go_simp
 go_at_call 53;refine HCD.out.mono ?_;rintro e w5 ⟨v5,ov5,st,ds5,rfl,Uy,Uz,hD5,ho5,d5⟩;have c5:=c4.trans (d5.mono c4.size);have hS5:=GX.out w5 c5;have HF5:=yH Uy;have zb0:=yH Uz;have HD5:=yH hD5;have HO5:=yH ho5;have D5:=D4.trans (d5.mono D4.size);have HZ4:=yH D4.size;have H5:=yH (H3.out.below D5);have HDB:=yH (HD3.out.below D5);refine hK.out _ _ hS5 (fun hHeld=>?_);clear hK K HCD Uy Uz hD5 ho5 H3 HD3;refine yT 9 ?_ (hy:=by intro w hSw;obtain⟨s0,s1,s2⟩:=hSw;go_simp;try with_reducible rfl);refine yT 10 ?_ (hy:=by intro w hSw;obtain⟨s0,s1,s2⟩:=hSw;go_simp;try with_reducible rfl);refine yT 11 ?_ (hy:=by intro w hSw;obtain⟨s0,s1,s2⟩:=hSw;go_simp;try with_reducible rfl);refine yT 12 ?_ (hy:=by intro w hSw;obtain⟨s0,s1,s2⟩:=hSw;go_simp;try with_reducible rfl);refine yT 13 ?_ (hy:=by intro w hSw;obtain⟨s0,s1,s2⟩:=hSw;go_simp;try with_reducible rfl);refine yT 14 ?_ (hy:=by intro w hSw;obtain⟨s0,s1,s2⟩:=hSw;go_simp;try with_reducible rfl);refine yT 15 ?_ (hy:=by intro w hSw;obtain⟨s0,s1,s2⟩:=hSw;go_simp;try with_reducible rfl);refine wpAnyH_done (by kernel_rfl) ?_ _;clear hHeld
 try simp only[List.getElem_toArray,List.getElem_cons_zero,List.getElem_cons_succ,List.set_cons_zero,List.set_cons_succ,List.setIfInBounds_toArray]
 obtain⟨g0,g1,g2⟩:=hS5;clear hS3 hS4
 go_wp2_with fail;refine(za1 M1 F1 s1 rs rv roots uv us want w5 H5.out Ee.out (HRT.out w5 (b0.trans (c5.mono b0.size))) vG.out (HUT.out w5 c5) TV.out Nu.out).mono ?_;rintro e w6 ⟨fin,v6,UA,rfl,ho6,d6⟩;obtain rfl:fin=st:=fin_same UA HF5.out;have c6:=c5.trans (d6.mono c5.size);have J8:=yH ho6;have HP6:=yH (Copy.own_below HO5.out d6);have H6:=yH (H5.out.below d6);have HB6:=yH (HDB.out.below d6);have HA6:=yH (HD5.out.below d6);have HZ5:=yH c5.size;obtain⟨fr,hfr⟩:∃fr,fin.freed=fr:=⟨_,rfl⟩;have Bf:=yH hfr;rw[hfr];clear UA ho6 d6 hfr H5 HDB HD5
 go_wp2_with fail;refine(Texts.texts w6 v6 ov5 fin.out fin.out (Strs.bU J8.out).reads (Strs.bU HP6.out).reads).mono ?_;rintro e w7 ⟨rfl,m7⟩;rw[decide_eq_true rfl];have d7:Below w6.heap.size w6 w7:=m7.below (Below.refl _ _);have c7:=c6.trans (d7.mono c6.size);have H7:=yH (H6.out.below d7);have HB7:=yH (HB6.out.below d7);have HA7:=yH (HA6.out.below d7);have HP7:=yH (Copy.own_below HP6.out d7);clear m7 d7 H6 HB6 HA6 HP6 J8
 go_wp2_with fail;refine(Pv M1 F1 _ s1 rs v3 ds w7 H7.out Ee.out.len Ee.out.bulk HB7.out.1 Yc.out.len (Ed Yc.out Ee.out.rise)).mono ?_;rintro e w8 ⟨rfl,d8⟩;have c8:=c7.trans (d8.mono c7.size);have H8:=yH (H7.out.below d8);have QF:=yH (HA7.out.below d8);have HP8:=yH (Copy.own_below HP7.out d8);clear d8 H7 HB7 HA7 HP7;obtain⟨g0,g1,g2⟩:=GX.out w8 c8
 go_wp2_with fail;clear g0 g1 g2;refine(C9 M1 F1 s1 rs rv roots uv us want w8 H8.out Ee.out (HRT.out w8 (b0.trans (c8.mono b0.size))) vG.out (HUT.out w8 c8) TV.out Nu.out).mono ?_;rintro e w9 ⟨SY,v9,N9,PE,rfl,ho9,zb1,kp9,zb2⟩;obtain rfl:SY=fin:=fin_same PE HF5.out;have hout:∀b,M1 b->w0.heap.size<=b/\b<w1.heap.size:=fun b hm=>⟨Vy.out b (.inl hm),Eh.out b (.inl hm)⟩
 have hz2:=HZ2.out;have hz3:=HZ3.out;have hz4:=HZ4.out;have c9:=c8.trans (kp9.below c8.size (fun i hi hm=>by have:=(hout i hm).1;omega));have HI9:=yH zb1;have HO9:=yH ho9;have HP9:=yH (Tab.aN HP8.out kp9 (fun b hb hm=>by have h1:=(hout b hm).2;have h2:=(HP8.out.lt b hb).1;omega));have HA9:=yH (show Op.jR (fun b=>w2.heap.size<=b/\b<w8.heap.size) w9 v5 ds5 from QF.out.1.ag (Ag.bg kp9 (fun b _ hS hm=>by have h1:=(hout b hm).2;have h2:=hS.1;omega)));have Ej:=yH (Ee.out.way (SH Ee.out.rise PE));rw[Bf.out];clear PE ho9 zb1 kp9 zb2 H8 QF HP8
 go_wp2_with fail;refine(Texts.texts w9 v9 ov5 SY.out SY.out (Strs.bU HO9.out).reads (Strs.bU HP9.out).reads).mono ?_;rintro e w10 ⟨rfl,m10⟩;rw[decide_eq_true rfl];have d10:Below w9.heap.size w9 w10:=m10.below (Below.refl _ _);have c10:=c9.trans (d10.mono c9.size);clear m10
 go_wp2_with fail;refine(Pv N9 F1 _ s1 SY.rs v5 ds5 w10 (HI9.out.below d10) Ej.out.len Ej.out.bulk (HA9.out.below d10) zb0.out.len (Ed zb0.out Ej.out.rise)).mono ?_;rintro e w11 ⟨rfl,d11⟩;have c11:=c10.trans (d11.mono c10.size)
 go_wp2_with fail
 go_ret;exact⟨rfl,b0.trans (c11.mono b0.size)⟩
end Go.Proofs.YtmmmghpimdfleaaGreatDoor.sweepCollects
