/-
  The ak visit: both halves.
  The ak Raw: the bytes of a node (printed by tools/zd8.py).
  The ak zcf: the number of a tree's first zb3 (printed by tools/zcj.py).
  The ak MB.
  The ak Sum (printed by tools/zck.py out of listing.Sum's walk).
  The ak Valid (printed by tools/zcl.py out of store.zb4 walk).
-/
import Derived.Test.YtmmmghpimdfleaaGreatDoorTk
import Derived.Test.YtmmmghpimdfleaaGreatDoorDViA
import Derived.Test.YtmmmghpimdfleaaGreatDoorDViB
import Derived.Test.YtmmmghpimdfleaaGreatDoorGrpDA
import Derived.Test.YtmmmghpimdfleaaGreatDoorGrpJ
import Derived.Test.YtmmmghpimdfleaaGreatDoorGrpDB
import Derived.Test.YtmmmghpimdfleaaGreatDoorStock
set_option linter.unusedVariables false
set_option maxHeartbeats 16000000
set_option linter.unusedSimpArgs false
namespace Go.Proofs.YtmmmghpimdfleaaGreatDoor
namespace Gz
open Go.RowKit Mem Tr lK jB jC Name
theorem MC(B:Nat)(S:Nat->Prop):∀N,Ky B S N:=by
 intro N
 induction N with
 | zero=>intro k ex t ks kv path p0 depth n nr rv xs w h;omega
 | succ N ih =>
  intro k ex t ks kv path p0 depth n nr rv xs w hN hB ht hk hS hps hd1 qp hn hnr hrow hBw;by_cases oL:depth=1
  ·exact UB B S N ih k ex t ks kv path p0 depth n nr rv xs w oL hN hB ht hk hS hps hd1 qp hn hnr hrow hBw
  ·exact visitB B S N ih k ex t ks kv path p0 depth n nr rv xs w oL hN hB ht hk hS hps hd1 qp hn hnr hrow hBw
theorem VG(B:Nat)(S:Nat->Prop):∀(N:Nat) (k:Int) (ex:Bool) (t:ByteArray) (ks:Tr.Kids) (kv:Value) (path p0:ByteArray) (depth n nr:Nat) (rv:Value) (xs:List Value) (w:World),ks.bulk<N->ks.bulk<=4194304->t.size<=4194304->ay S w kv ks->(∀b,S b->b<w.heap.size/\rv.ownBlock≠some b) ->
 path.size<=depth*4194305->1<=depth->depth<=33->n<=1048576->nr<=n->w.ownsRow B 283 4 rv nr xs->B<=w.heap.size ->
 Calls Tryz.prog 207 #[.agg #[rv,.int .i64 (n:Nat),.int .i64 0,.string p0],.string path,.agg #[.int .i64 k,.bool ex,.string t,kv],.int .i64 (depth:Nat)] w (zB B w rv (au path depth k ex t ks n)):=MC B S
end Gz

namespace QA
open Go.RowKit Mem Tr J4 lK
theorem MF(l:List UInt8):(word l).length<=l.length+15:=by
 unfold word;simp[Rep.fC];omega
theorem cat(a b:ByteArray):(a++b).data.toList=a.data.toList++b.data.toList:=by simp
theorem ja(a b:ByteArray):(a++b).size=a.size+b.size:=by simp
theorem size_data(a:ByteArray):a.data.toList.length=a.size:=by simp
theorem aS(s:ByteArray)(w:World)(hs:s.size<=2097152) :
 Calls Tryz.prog 210 #[.string s] w fun e w'=>∃X:ByteArray,e = .returned (.string X)/\X.data.toList=word s.data.toList/\X.size<=s.size+15/\Below w.heap.size w w':=by
 have HX:=yH (show ∃X:ByteArray,X.data.toList=word s.data.toList/\X=⟨(word s.data.toList).toArray⟩from⟨_,by simp,rfl⟩)
 go_enter Tryz.func210,Tryz.ntmps210
 go_wp2_with fail;refine(DWi.GV s w hs).mono ?_;rintro e w1 ⟨rfl,b1⟩;obtain⟨X,hX,hX2⟩:=HX.out;rw[←hX2];clear hX2
 go_wp2_with fail
 go_ret;refine⟨X,rfl,hX,?_,b1⟩;have h:=MF s.data.toList;rw[←size_data,hX,←size_data s];exact h
set_option maxRecDepth 20000 in
theorem TE:∀(N:Nat) (k:Int) (ex:Bool) (t:ByteArray) (ks:Tr.Kids) (kv:Value) (S:Nat->Prop) (w:World),ks.bulk<N->ks.bulk<=2097152->t.size<=2097152->ay S w kv ks->(∀b,S b->b<w.heap.size) ->
 Calls Tryz.prog 178 #[.agg #[.int .i64 k,.bool ex,.string t,kv]] w fun e w'=>∃X:ByteArray,e = .returned (.string X)/\X.data.toList=raw k ex t ks/\Below w.heap.size w w':=by
 intro N
 induction N with
 | zero=>intro k ex t ks kv S w h;omega
 | succ N ih =>
  intro k ex t ks kv S w hN hB ht hk hS;obtain⟨ao,cap,rfl,hcl,hcm,hel⟩:=id hk;obtain⟨nk,hnk⟩:∃nk,ks.len=nk:=⟨_,rfl⟩;have uw:nk<=2097152:=(by have:=ks.jD;omega);have uy:=yH hnk;have HK:=yH hk;have HS:=yH hS;have HN:=yH hN;have HB:=yH hB;rw[hnk]at HK;rw[hnk];clear hk hS hN hB hel hcl hcm hnk;by_cases hk1:k=1
  ·subst hk1
   go_enter Tryz.func178,Tryz.ntmps178
   go_wp2_with fail;obtain⟨w1,hw1⟩:∃W,w.alloc (.cells #[.int .i64 1,.bool ex,.string t,.slice ao nk cap] 26)=W:=⟨_,rfl⟩;rw[hw1];obtain⟨bb,x1⟩:=af hw1;have XB:=yH x1;clear hw1 x1;have HP:=yH (show ∀W,Below w1.heap.size w1 W->Bx W w.heap.size #[.int .i64 1,.bool ex,.string t,.slice ao nk cap] 26 from fun W hb=>XB.out.below hb);have c0:w1.cell? ⟨w.heap.size,0,none⟩=some (.int .i64 1):=XB.out.cell 0;have c1:w1.cell? ⟨w.heap.size,1,none⟩=some (.bool ex):=XB.out.cell 1;refine(aS (⟨#[114,101,103,117,108,97,114]⟩) w1 (by decide)).mono ?_;rintro e v1 ⟨X1,rfl,hx1,hz1,d1⟩;have Vy:=yH hx1;clear hx1;have b1:=d1;have r1:X1.size<=22:=hz1;clear c0 c1 hz1;have c1:=(HP.out v1 b1).cell 1;by_cases hex:ex=true
   ·subst hex
    go_wp2_with fail;refine(aS (⟨#[101,120,101,99,117,116,97,98,108,101]⟩) v1 (by decide)).mono ?_;rintro e v2 ⟨X2,rfl,hx2,hz2,d2⟩;have ZJ:=yH hx2;clear hx2;have b2:=b1.trans (d2.mono b1.size)
    go_wp2_with fail;refine(aS (⟨#[]⟩) v2 (by decide)).mono ?_;rintro e v3 ⟨X3,rfl,hx3,hz3,d3⟩;have HX3:=yH hx3;clear hx3;have b3:=b2.trans (d3.mono b2.size);have r2:X2.size<=25:=hz2;have r3:X3.size<=15:=hz3;clear hz2 hz3 c1;obtain⟨Z,hZ⟩:∃Z,X1++(X2++X3)=Z:=⟨_,rfl⟩;have hZs:Z.size<=100:=(by rw[←hZ,ja,ja];omega);have HZ:=yH (show Z.data.toList=_ from by rw[←hZ,cat,cat,Vy.out,ZJ.out,HX3.out]);have HZ2:=yH hZ;clear hZ
    go_wp2_with fail;rw[HZ2.out];have hS:∀W',Below v3.heap.size v3 W'->W'.cell? ⟨w.heap.size,2,none⟩=some (.string t):=fun W' hb=>(HP.out W' (b3.trans (hb.mono b3.size))).cell 2
    have hS0:=hS v3.drew (Below.refl _ v3).drew;refine wp_region_held_drew (S:=fun W'=>W'.cell? ⟨w.heap.size,2,none⟩=some (.string t)) (by kernel_rfl) hS0 (fun hHeld=>?_);refine yT 0 ?_;refine yT 2 ?_;refine yT 3 ?_;refine yR 1 (fun K hK=>?_)
    go_simp;refine(aS ⟨#[99,111,110,116,101,110,116,115]⟩ v3.drew (by decide)).mono ?_;rintro e v4 ⟨X4,rfl,hx4,hz4,d4'⟩;have d4:Below v3.heap.size v3 v4:=Copy.ax d4';have HX4:=yH hx4;refine hK.out _ _ (hS v4 d4) (fun hHeld=>?_);clear hK K hx4 d4';refine yR 4 (fun K hK=>?_)
    go_simp;refine(aS t v4 ht).mono ?_;rintro e v5 ⟨X5,rfl,hx5,hz5,e5⟩;have d5:Below v3.heap.size v3 v5:=d4.trans (e5.mono d4.size);have HX5:=yH hx5;refine hK.out _ _ (hS v5 d5) (fun hHeld=>?_);clear hK K hx5;have q1:X4.size<=23:=hz4;have q2:X5.size<=2097167:=(by omega);clear hz4 hz5;refine yT 5 ?_ (hy:=by intro w hSw;go_simp;rw[if_neg (by omega)];try with_reducible rfl);refine yT 6 ?_ (hy:=by intro w hSw;go_simp;rw[if_neg (by omega)];try with_reducible rfl);refine yT 7 ?_;refine wpAnyH_done (by kernel_rfl) ?_ _;clear hHeld hS hS0;simp only[List.getElem_toArray,List.getElem_cons_zero,List.getElem_cons_succ,List.set_cons_zero,List.set_cons_succ,List.setIfInBounds_toArray];have b5:=b3.trans (d5.mono b3.size);obtain⟨Y,hY⟩:∃Y,Z++(X4++X5)=Y:=⟨_,rfl⟩;have hYs:Y.size<=4194304:=(by rw[←hY,ja,ja];omega);have HY:=yH (show Y.data.toList=_ from by rw[←hY,cat,cat,HX4.out,HX5.out]);rw[hY];clear hY
    go_wp2_with fail;refine(aS (⟨#[40]⟩) v5 (by decide)).mono ?_;rintro e v6 ⟨X6,rfl,hx6,hz6,d6⟩;have HX6:=yH hx6;clear hx6;have s6:X6.size<=16:=hz6;clear hz6;have b6:=b5.trans (d6.mono b5.size)
    go_wp2_with fail;refine(aS (⟨#[116,121,112,101]⟩) v6 (by decide)).mono ?_;rintro e v7 ⟨X7,rfl,hx7,hz7,d7⟩;have HX7:=yH hx7;clear hx7;have s7:X7.size<=19:=hz7;clear hz7;have b7:=b6.trans (d7.mono b6.size)
    go_wp2_with fail;refine(aS (⟨#[41]⟩) v7 (by decide)).mono ?_;rintro e v8 ⟨X8,rfl,ZX,hz8,d8⟩;have Yh:=yH ZX;clear ZX;have s8:X8.size<=16:=hz8;clear hz8;have b8:=b7.trans (d8.mono b7.size)
    go_wp2_with fail
    go_ret;refine⟨_,rfl,?_,bb.trans (b8.mono bb.size)⟩;rw[cat,cat,cat,HX6.out,HX7.out,Yh.out];rw[HY.out,HZ.out];simp only[raw,nK,words,List.append_assoc,List.append_nil,List.nil_append]
    try rfl
   ·have zcm:ex=false:=(by cases ex;rfl;exact absurd rfl hex);subst zcm;clear hex;have hS:∀W',Below v1.heap.size v1 W'->W'.cell? ⟨w.heap.size,2,none⟩=some (.string t):=fun W' hb=>(HP.out W' (b1.trans (hb.mono b1.size))).cell 2
    have hS0:=hS v1.drew (Below.refl _ v1).drew
    go_wp2_with fail;refine wp_region_held_drew (S:=fun W'=>W'.cell? ⟨w.heap.size,2,none⟩=some (.string t)) (by kernel_rfl) hS0 (fun hHeld=>?_);refine yT 0 ?_;refine yT 2 ?_;refine yT 3 ?_;refine yR 1 (fun K hK=>?_)
    go_simp;refine(aS ⟨#[99,111,110,116,101,110,116,115]⟩ v1.drew (by decide)).mono ?_;rintro e v9 ⟨X9,rfl,hx9,Yi,d9'⟩;have d9:Below v1.heap.size v1 v9:=Copy.ax d9';have ZY:=yH hx9;refine hK.out _ _ (hS v9 d9) (fun hHeld=>?_);clear hK K hx9 d9';refine yR 4 (fun K hK=>?_)
    go_simp;refine(aS t v9 ht).mono ?_;rintro e v10 ⟨Yj,rfl,ZZ,zcn,e10⟩;have d10:Below v1.heap.size v1 v10:=d9.trans (e10.mono d9.size);have zco:=yH ZZ;refine hK.out _ _ (hS v10 d10) (fun hHeld=>?_);clear hK K ZZ;have q1:X9.size<=23:=Yi;have q2:Yj.size<=2097167:=(by omega);clear Yi zcn;refine yT 5 ?_ (hy:=by intro w hSw;go_simp;rw[if_neg (by omega)];try with_reducible rfl);refine yT 6 ?_ (hy:=by intro w hSw;go_simp;rw[if_neg (by omega)];try with_reducible rfl);refine yT 7 ?_;refine wpAnyH_done (by kernel_rfl) ?_ _;clear hHeld hS hS0;simp only[List.getElem_toArray,List.getElem_cons_zero,List.getElem_cons_succ,List.set_cons_zero,List.set_cons_succ,List.setIfInBounds_toArray];have b10:=b1.trans (d10.mono b1.size);obtain⟨Y,hY⟩:∃Y,X1++(X9++Yj)=Y:=⟨_,rfl⟩;have hYs:Y.size<=4194304:=(by rw[←hY,ja,ja];omega);have HY:=yH (show Y.data.toList=_ from by rw[←hY,cat,cat,ZY.out,zco.out]);rw[hY];clear hY
    go_wp2_with fail;refine(aS (⟨#[40]⟩) v10 (by decide)).mono ?_;rintro e v11 ⟨X11,rfl,Z8,Z9,d11⟩;have zcp:=yH Z8;clear Z8;have s11:X11.size<=16:=Z9;clear Z9;have b11:=b10.trans (d11.mono b10.size)
    go_wp2_with fail;refine(aS (⟨#[116,121,112,101]⟩) v11 (by decide)).mono ?_;rintro e v12 ⟨X12,rfl,zaa,zab,d12⟩;have zcq:=yH zaa;clear zaa;have s12:X12.size<=19:=zab;clear zab;have b12:=b11.trans (d12.mono b11.size)
    go_wp2_with fail;refine(aS (⟨#[41]⟩) v12 (by decide)).mono ?_;rintro e v13 ⟨X13,rfl,zac,zad,d13⟩;have zcr:=yH zac;clear zac;have s13:X13.size<=16:=zad;clear zad;have b13:=b12.trans (d13.mono b12.size)
    go_wp2_with fail
    go_ret;refine⟨_,rfl,?_,bb.trans (b13.mono bb.size)⟩;rw[cat,cat,cat,zcp.out,zcq.out,zcr.out];rw[HY.out,Vy.out];simp only[raw,nK,words,List.append_assoc,List.append_nil,List.nil_append]
    try rfl
  by_cases hk2:k=2
  ·have k1':(k==1)=false:=(by rw[beq_eq_false_iff_ne];exact hk1);subst hk2
   go_enter Tryz.func178,Tryz.ntmps178
   go_wp2_with fail;obtain⟨w1,hw1⟩:∃W,w.alloc (.cells #[.int .i64 2,.bool ex,.string t,.slice ao nk cap] 26)=W:=⟨_,rfl⟩;rw[hw1];obtain⟨bb,x1⟩:=af hw1;have XB:=yH x1;clear hw1 x1;have HP:=yH (show ∀W,Below w1.heap.size w1 W->Bx W w.heap.size #[.int .i64 2,.bool ex,.string t,.slice ao nk cap] 26 from fun W hb=>XB.out.below hb);have c0:w1.cell? ⟨w.heap.size,0,none⟩=some (.int .i64 2):=XB.out.cell 0;have c1:w1.cell? ⟨w.heap.size,1,none⟩=some (.bool ex):=XB.out.cell 1;clear c0 c1;have hS:∀W',Below w1.heap.size w1 W'->W'.cell? ⟨w.heap.size,2,none⟩=some (.string t):=fun W' hb=>(HP.out W' hb).cell 2
   have hS0:=hS w1.drew (Below.refl _ w1).drew;refine wp_region_held_drew (S:=fun W'=>W'.cell? ⟨w.heap.size,2,none⟩=some (.string t)) (by kernel_rfl) hS0 (fun hHeld=>?_);refine yT 3 ?_;refine yT 4 ?_;refine yR 0 (fun K hK=>?_)
   go_simp;refine(aS (⟨#[115,121,109,108,105,110,107]⟩) w1.drew (by decide)).mono ?_;rintro e v14 ⟨X14,rfl,zae,zaf,e14⟩;have d14:Below w1.heap.size w1 v14:=Copy.ax e14;have zcs:=yH zae;have s14:X14.size<=22:=zaf;refine hK.out _ _ (hS v14 d14) (fun hHeld=>?_);clear hK K zae zaf e14;refine yR 1 (fun K hK=>?_)
   go_simp;refine(aS (⟨#[116,97,114,103,101,116]⟩) v14 (by decide)).mono ?_;rintro e v15 ⟨X15,rfl,zah,zai,e15⟩;have d15:Below w1.heap.size w1 v15:=d14.trans (e15.mono d14.size);have zct:=yH zah;have s15:X15.size<=21:=zai;refine hK.out _ _ (hS v15 d15) (fun hHeld=>?_);clear hK K zah zai e15;refine yT 2 ?_ (hy:=by intro w hSw;go_simp;rw[if_neg (by omega)];try with_reducible rfl);refine yR 5 (fun K hK=>?_)
   go_simp;refine(aS (t) v15 (ht)).mono ?_;rintro e v16 ⟨X16,rfl,hx16,zcu,e16⟩;have d16:Below w1.heap.size w1 v16:=d15.trans (e16.mono d15.size);have zcv:=yH hx16;have s16:X16.size<=2097167:=(by omega);refine hK.out _ _ (hS v16 d16) (fun hHeld=>?_);clear hK K hx16 zcu e16;refine yT 6 ?_ (hy:=by intro w hSw;go_simp;rw[if_neg (by omega)];try with_reducible rfl);refine yT 7 ?_;refine wpAnyH_done (by kernel_rfl) ?_ _;clear hHeld hS hS0;simp only[List.getElem_toArray,List.getElem_cons_zero,List.getElem_cons_succ,List.set_cons_zero,List.set_cons_succ,List.setIfInBounds_toArray];obtain⟨Y,hY⟩:∃Y,X14++X15++X16=Y:=⟨_,rfl⟩;have hYs:Y.size<=4194304:=(by rw[←hY,ja,ja];omega);have HY:=yH (show Y.data.toList=_ from by rw[←hY,cat,cat,zcs.out,zct.out,zcv.out]);rw[hY];clear hY
   go_wp2_with fail;refine(aS (⟨#[40]⟩) v16 (by decide)).mono ?_;rintro e v17 ⟨X17,rfl,zaj,zak,d17⟩;have zcw:=yH zaj;clear zaj;have s17:X17.size<=16:=zak;clear zak;have b17:=d16.trans (d17.mono d16.size)
   go_wp2_with fail;refine(aS (⟨#[116,121,112,101]⟩) v17 (by decide)).mono ?_;rintro e v18 ⟨X18,rfl,zal,zam,d18⟩;have zcx:=yH zal;clear zal;have s18:X18.size<=19:=zam;clear zam;have b18:=b17.trans (d18.mono b17.size)
   go_wp2_with fail;refine(aS (⟨#[41]⟩) v18 (by decide)).mono ?_;rintro e v19 ⟨X19,rfl,zan,zao,d19⟩;have zcy:=yH zan;clear zan;have s19:X19.size<=16:=zao;clear zao;have b19:=b18.trans (d19.mono b18.size)
   go_wp2_with fail
   go_ret;refine⟨_,rfl,?_,bb.trans (b19.mono bb.size)⟩;rw[cat,cat,cat,zcw.out,zcx.out,zcy.out];rw[HY.out];rw[raw,nK,if_neg (by decide),if_pos rfl];simp only[words,List.append_assoc,List.append_nil,List.nil_append]
   try rfl
  ·have k1':(k==1)=false:=(by rw[beq_eq_false_iff_ne];exact hk1);have k2':(k==2)=false:=(by rw[beq_eq_false_iff_ne];exact hk2);have zcz:=yH (show raw k ex t ks=words [⟨#[40]⟩,⟨#[116,121,112,101]⟩]++((words [⟨#[100,105,114,101,99,116,111,114,121]⟩]++fH ks)++words [⟨#[41]⟩]) by rw[raw,nK,if_neg hk1,if_neg hk2])
   go_enter Tryz.func178,Tryz.ntmps178
   go_wp2_with fail;obtain⟨w1,hw1⟩:∃W,w.alloc (.cells #[.int .i64 k,.bool ex,.string t,.slice ao nk cap] 26)=W:=⟨_,rfl⟩;rw[hw1];obtain⟨bb,x1⟩:=af hw1;have XB:=yH x1;clear hw1 x1;have HP:=yH (show ∀W,Below w1.heap.size w1 W->Bx W w.heap.size #[.int .i64 k,.bool ex,.string t,.slice ao nk cap] 26 from fun W hb=>XB.out.below hb);have c0:w1.cell? ⟨w.heap.size,0,none⟩=some (.int .i64 k):=XB.out.cell 0;have c1:w1.cell? ⟨w.heap.size,1,none⟩=some (.bool ex):=XB.out.cell 1;refine(aS (⟨#[100,105,114,101,99,116,111,114,121]⟩) w1 (by decide)).mono ?_;rintro e v20 ⟨X20,rfl,zaq,zar,d20⟩;have zcA:=yH zaq;clear zaq;have s20:X20.size<=24:=zar;clear zar;clear c0 c1;have hlen:=jb ks;have HLEN:=yH (show(fH ks).length<=419430400 by have:=HB.out;omega);clear hlen
   go_wp2_with fail
   go_loopw [3,4,5] (fun s i _ wr=>∃(j:Nat) (I:ByteArray),j<=nk/\i = .int .i64 j/\s = .string I/\Below w1.heap.size w1 wr/\Hid (words [⟨#[100,105,114,101,99,116,111,114,121]⟩]++fH ks=I.data.toList++fH (ks.drop j))) (fun _ i _ _=>nk-(intOf i).toNat)
   case atStart=>exact⟨0,X20,Nat.zero_le _,rfl,rfl,d20,yH (by rw[Kids.drop_zero,zcA.out];simp only[words,List.append_nil])⟩
   case round =>
    obtain⟨j,I,hj,rfl,rfl,br,HI⟩:=hrel;have e0:(0:Int)<=(j:Int):=Int.natCast_nonneg _;have hIs:I.size<=419431000:=(by have h:=congrArg List.length HI.out;rw[List.length_append,List.length_append,size_data,show(words [⟨#[100,105,114,101,99,116,111,114,121]⟩]).length=24 by decide]at h;have:=HLEN.out;omega);have n3:wr.cell? ⟨w.heap.size,3,none⟩=some (.slice ao nk cap):=(HP.out wr br).cell 3;by_cases hlt:j<nk
    ·obtain⟨ao',cap',hv,hcl,hcm,hel⟩:=HK.out;injection hv with hv1 hv2 hv3;subst hv1;subst hv3;clear hv2 hcl hcm;rcases hel with rfl|⟨b,off,rfl,hel⟩
     ·exfalso;have:=uy.out;simp[Tr.Kids.len]at this;omega
     have iF:=(hel.below bb).below br;obtain⟨nm,kd,oZ,tx,sub,r,dL,cap2,hd0,qw,hSb,g0,g1,g2,g3,g4,hsub,hbk⟩:=iF.at' (j:=j) (by rw[uy.out];exact hlt);have zD:=yH (show fH (ks.drop j)=words [⟨#[101,110,116,114,121]⟩,⟨#[40]⟩,⟨#[110,97,109,101]⟩,nm,⟨#[110,111,100,101]⟩]++(raw kd oZ tx sub++(words [⟨#[41]⟩]++fH (ks.drop (j+1)))) by rw[hd0,qw];rfl);have HEL:=yH iF;have hbb:=HB.out;have hbn:=HN.out;have lN:nm.size<=2097152:=(by omega);have pz:tx.size<=2097152:=(by omega);have uN:=yH (show sub.bulk<N/\sub.bulk<=2097152 by omega);have lM:=yH hsub;have j1:(j:Int)<(nk:Int):=(by omega);have Lm:=yH (show ∀W,Below wr.heap.size wr W->W.cell? ⟨b,off+j*5,none⟩=some (.string nm)from fun W hb=>(hb.cell (World.block_lt_of_cell? wr _ g0)).trans g0);have HSS:=yH (show ∀b,S b->b<wr.heap.size from fun q hq=>Nat.lt_of_lt_of_le (HS.out q hq) (Nat.le_trans bb.size br.size));have hrl:=kJ kd oZ tx (fH sub);have hrl2:=jb sub;have vG:=yH (show(raw kd oZ tx sub).length<=429430400 from by unfold raw;omega);clear hel iF hd0 qw hsub hbk hbb hbn hSb hrl hrl2
     go_wp2_with fail;refine(ih kd oZ tx sub (.slice dL sub.len cap2) S wr uN.out.1 uN.out.2 pz lM.out HSS.out).mono ?_;clear g0 g1 g2 g3 g4 n3;rintro e wk ⟨Y,rfl,hY,bk⟩;have HY:=yH hY;have hYs:Y.size<=429430400:=(by rw[←size_data,hY];exact vG.out);have brk:=br.trans (bk.mono br.size);clear hY;have hS:∀W',Below wk.heap.size wk W'->W'.cell? ⟨w.heap.size,3,none⟩=some (.slice (some ⟨b,off,none⟩) nk cap)/\W'.cell? ⟨b,off+j*5,none⟩=some (.string nm):=fun W' hb=>⟨(HP.out W' (brk.trans (hb.mono brk.size))).cell 3,Lm.out W' (bk.trans (hb.mono bk.size))⟩
     have hS0:=hS wk.drew (Below.refl _ wk).drew
     go_wp2_with fail;refine wp_region_held_drew (S:=fun W'=>W'.cell? ⟨w.heap.size,3,none⟩=some (.slice (some ⟨b,off,none⟩) nk cap)/\W'.cell? ⟨b,off+j*5,none⟩=some (.string nm)) (by kernel_rfl) hS0 (fun hHeld=>?_);refine yT 0 ?_;refine yT 6 ?_;refine yT 7 ?_ (hy:=by intro w hSw;obtain⟨hs1,hs2⟩:=hSw;go_simp;try with_reducible rfl);refine yT 8 ?_;refine yT 9 ?_;refine yT 10 ?_;refine yT 11 ?_ (hy:=by intro w hSw;obtain⟨hs1,hs2⟩:=hSw;go_simp;try with_reducible rfl);refine yT 16 ?_;refine yR 1 (fun K hK=>?_)
     go_simp;refine(aS (⟨#[101,110,116,114,121]⟩) wk.drew (by decide)).mono ?_;rintro e v21 ⟨X21,rfl,zas,zat,e21⟩;have d21:Below wk.heap.size wk v21:=Copy.ax e21;have zcB:=yH zas;have s21:X21.size<=20:=zat;refine hK.out _ _ (hS v21 d21) (fun hHeld=>?_);clear hK K zas zat e21;refine yR 2 (fun K hK=>?_)
     go_simp;refine(aS (⟨#[40]⟩) v21 (by decide)).mono ?_;rintro e v22 ⟨X22,rfl,zau,zav,e22⟩;have d22:Below wk.heap.size wk v22:=d21.trans (e22.mono d21.size);have zcC:=yH zau;have s22:X22.size<=16:=zav;refine hK.out _ _ (hS v22 d22) (fun hHeld=>?_);clear hK K zau zav e22;refine yT 3 ?_ (hy:=by intro w hSw;go_simp;rw[if_neg (by omega)];try with_reducible rfl);refine yR 4 (fun K hK=>?_)
     go_simp;refine(aS (⟨#[110,97,109,101]⟩) v22 (by decide)).mono ?_;rintro e v23 ⟨yE,rfl,zaw,zax,e23⟩;have d23:Below wk.heap.size wk v23:=d22.trans (e23.mono d22.size);have zcD:=yH zaw;have s23:yE.size<=19:=zax;refine hK.out _ _ (hS v23 d23) (fun hHeld=>?_);clear hK K zaw zax e23;refine yT 5 ?_ (hy:=by intro w hSw;go_simp;rw[if_neg (by omega)];try with_reducible rfl);refine yR 12 (fun K hK=>?_)
     go_simp;refine(aS (nm) v23 (lN)).mono ?_;rintro e v24 ⟨X24,rfl,hx24,zcE,e24⟩;have d24:Below wk.heap.size wk v24:=d23.trans (e24.mono d23.size);have zcF:=yH hx24;have s24:X24.size<=2097167:=(by omega);refine hK.out _ _ (hS v24 d24) (fun hHeld=>?_);clear hK K hx24 zcE e24;refine yT 13 ?_ (hy:=by intro w hSw;go_simp;rw[if_neg (by omega)];try with_reducible rfl);refine yR 14 (fun K hK=>?_)
     go_simp;refine(aS (⟨#[110,111,100,101]⟩) v24 (by decide)).mono ?_;rintro e v25 ⟨X25,rfl,hx25,zay,e25⟩;have d25:Below wk.heap.size wk v25:=d24.trans (e25.mono d24.size);have zcG:=yH hx25;have s25:X25.size<=19:=zay;refine hK.out _ _ (hS v25 d25) (fun hHeld=>?_);clear hK K hx25 zay e25;refine yT 15 ?_ (hy:=by intro w hSw;go_simp;rw[if_neg (by omega)];try with_reducible rfl);refine yT 17 ?_ (hy:=by intro w hSw;go_simp;rw[if_neg (by omega)];try with_reducible rfl);refine yR 18 (fun K hK=>?_)
     go_simp;refine(aS (⟨#[41]⟩) v25 (by decide)).mono ?_;rintro e v26 ⟨X26,rfl,zaz,zaA,e26⟩;have d26:Below wk.heap.size wk v26:=d25.trans (e26.mono d25.size);have zcH:=yH zaz;have s26:X26.size<=16:=zaA;refine hK.out _ _ (hS v26 d26) (fun hHeld=>?_);clear hK K zaz zaA e26;refine yT 19 ?_ (hy:=by intro w hSw;go_simp;rw[if_neg (by omega)];try with_reducible rfl);refine yT 20 ?_ (hy:=by intro w hSw;go_simp;rw[if_neg (by omega)];try with_reducible rfl);refine yT 21 ?_;refine wpAnyH_done (by kernel_rfl) ?_ _;clear hHeld hS hS0;simp only[List.getElem_toArray,List.getElem_cons_zero,List.getElem_cons_succ,List.set_cons_zero,List.set_cons_succ,List.setIfInBounds_toArray];have bF:=yH (show words [⟨#[100,105,114,101,99,116,111,114,121]⟩]++fH ks=(I++(X21++X22++yE++X24++X25++Y++X26)).data.toList++fH (ks.drop (j+1)) by
      rw[HI.out,zD.out];simp only[cat,zcB.out,zcC.out,zcD.out,zcF.out,zcG.out,zcH.out,HY.out,words,List.append_assoc,List.append_nil,List.nil_append])
     go_wp2_with fail
     go_roundw
     case rel=>exact⟨j+1,_,by omega,by go_num,rfl,brk.trans (d26.mono brk.size),bF⟩
     case measure=>simp[intOf];omega
    ·obtain rfl:j=nk:=(by omega);have HI2:=yH (show I.data.toList=words [⟨#[100,105,114,101,99,116,111,114,121]⟩]++fH ks by rw[HI.out,Kids.gV ks j (by rw[uy.out];omega)];simp only[fH,List.append_nil]);clear e0 hlt hj
     go_wp2_with fail;refine(aS (⟨#[40]⟩) wr (by decide)).mono ?_;rintro e v27 ⟨X27,rfl,hx27,zaB,d27⟩;have zcI:=yH hx27;clear hx27;have s27:X27.size<=16:=zaB;clear zaB;have b27:=br.trans (d27.mono br.size)
     go_wp2_with fail;refine(aS (⟨#[116,121,112,101]⟩) v27 (by decide)).mono ?_;rintro e v28 ⟨X28,rfl,hx28,zaC,d28⟩;have zcJ:=yH hx28;clear hx28;have s28:X28.size<=19:=zaC;clear zaC;have b28:=b27.trans (d28.mono b27.size)
     go_wp2_with fail;refine(aS (⟨#[41]⟩) v28 (by decide)).mono ?_;rintro e v29 ⟨X29,rfl,hx29,zaD,d29⟩;have zcK:=yH hx29;clear hx29;have s29:X29.size<=16:=zaD;clear zaD;have b29:=b28.trans (d29.mono b28.size)
     go_wp2_with fail
     go_ret;refine⟨_,rfl,?_,bb.trans (b29.mono bb.size)⟩;rw[cat,cat,cat,zcI.out,zcJ.out,zcK.out];rw[HI2.out,zcz.out];simp only[words,List.append_assoc,List.append_nil,List.nil_append]
     try rfl
end QA

namespace Gz
open Go.RowKit Mem Tr lK jB jC Name wF
theorem G6:aj J4.kP=24:=by decide
/-- The walk of a whole tree, its rows left out. -/
theorem VH(B:Nat)(S:Nat->Prop)(k:Int)(ex:Bool)(t:ByteArray)(ks:Tr.Kids)(kv:Value)(w:World)(hb:ks.bulk<=4194304)(ht:t.size<=4194304)(hk:ay S w kv ks)(hS:∀b,S b->b<w.heap.size) :
 Calls Tryz.prog 207 #[.agg #[.slice none 0 0,.int .i64 24,.int .i64 0,.string ⟨#[]⟩],.string ⟨#[]⟩,.agg #[.int .i64 k,.bool ex,.string t,kv],.int .i64 1] w
  fun e w'=>Below w.heap.size w w'/\∃(a:Option Addr) (n c:Nat) (m:Int) (q:ByteArray),e = .returned (.agg #[.slice a n c,.int .i64 m,.int .i64 (cO k ex t ks).2.1,.string q]):=by
 have H:=VG w.heap.size S (ks.bulk+1) k ex t ks kv ⟨#[]⟩ ⟨#[]⟩ 1 24 0 (.slice none 0 0) [] w (Nat.lt_succ_self _) hb ht hk (fun b hb=>⟨hS b hb,by simp[Value.ownBlock]⟩) (by simp[ByteArray.size]) (by omega) (by omega) (by omega) (by omega) (World.ownsRow_nil _ _ _ _) (Nat.le_refl _);refine H.mono ?_;rintro e w' ⟨hk',hp⟩;refine⟨hk'.below (Nat.le_refl _) (fun i _ h=>by simp[Value.ownBlock]at h),?_⟩;have hw:(cO k ex t ks).2.1=match au ⟨#[]⟩ 1 k ex t ks 24 with
  | .ok _=>0
  | .bad _ c=>c:=by
  unfold cO;rw[show aj [⟨#[100,101,112,111,116,45,97,114,99,104,105,118,101,45,49]⟩]=24 from G6];cases au ⟨#[]⟩ 1 k ex t ks 24<;>rfl
 rw[hw];clear hw;cases hR:au ⟨#[]⟩ 1 k ex t ks 24 with
 | ok m =>
  rw[hR]at hp;obtain⟨rv',q,nr,xs,rfl,_,_,hown,_⟩:=hp;obtain⟨a,c,rfl⟩:=Tab.aO hown;exact⟨a,nr,c,m,q,rfl⟩
 | bad p c =>
  rw[hR]at hp;obtain⟨a,n,c',m,q,rfl,_⟩:=hp;exact⟨a,n,c',m,q,rfl⟩
set_option maxRecDepth 20000 in
theorem TF(S:Nat->Prop)(k:Int)(ex:Bool)(t:ByteArray)(ks:Tr.Kids)(kv:Value)(w:World)(hb:ks.bulk<=4194304)(ht:t.size<=4194304)(hk:ay S w kv ks)(hS:∀b,S b->b<w.heap.size) :
 Calls Tryz.prog 176 #[.agg #[.int .i64 k,.bool ex,.string t,kv]] w fun e w'=>Below w.heap.size w w'/\∃(a:Option Addr) (n c:Nat) (m:Int) (q:ByteArray),e = .returned (.agg #[.slice a n c,.int .i64 m,.int .i64 (cO k ex t ks).2.1,.string q]):=by
 obtain⟨ao,cap,rfl,_,_,_⟩:=id hk;obtain⟨nk,hnk⟩:∃nk,ks.len=nk:=⟨_,rfl⟩;rw[hnk]at hk ⊢;have HK:=yH hk;obtain⟨code,hcode⟩:∃code,(cO k ex t ks).2.1=code:=⟨_,rfl⟩;rw[hcode];have HV:=yH (show ∀W,Below w.heap.size w W->Calls Tryz.prog 207 #[.agg #[.slice none 0 0,.int .i64 24,.int .i64 0,.string ⟨#[]⟩],.string ⟨#[]⟩,.agg #[.int .i64 k,.bool ex,.string t,.slice ao nk cap],.int .i64 1] W
  fun e w'=>Below W.heap.size W w'/\∃(a:Option Addr) (n c:Nat) (m:Int) (q:ByteArray),e = .returned (.agg #[.slice a n c,.int .i64 m,.int .i64 code,.string q])from fun W h=>by
  rw[←hcode];exact VH 0 S k ex t ks (.slice ao nk cap) W hb ht (HK.out.below h) (fun b hb=>Nat.lt_of_lt_of_le (hS b hb) h.size))
 have HM:=yH (show ∀W,Calls Tryz.prog 208 #[] W fun e w'=>e = .returned (.int .i64 24)/\Below W.heap.size W w' from fun W=>by
  have:=Vg W;rw[G6]at this;exact this)
 clear hcode hk hnk hb hS
 go_enter Tryz.func176,Tryz.ntmps176
 go_wp2_with fail;obtain⟨w1,hw1⟩:∃W,(w.alloc (.cells #[.int .i64 k,.bool ex,.string t,.slice ao nk cap] 26)).alloc (.cells #[.slice none 0 0,.int .i64 0,.int .i64 0,.string ⟨#[]⟩] 232)=W:=⟨_,rfl⟩;rw[hw1];obtain⟨b1,x1,x2⟩:=aQ hw1;have XN:=yH x1;have XZ:=yH x2;have z1:w.heap.size+1<w1.heap.size:=x2.lt;clear hw1 x1 x2;have hS:∀W',Below w1.heap.size w1 W'->W'.rangeAt w.heap.size 0 [.int .i64 k,.bool ex,.string t,.slice ao nk cap]:=fun W' hb=>by have:=(XN.out.below hb).range;simpa using this
 have hS0:=hS w1.drew (Below.refl _ w1).drew;refine(fun(h1:Go.RowKit.Hid ?P1)=>?zaE) ?zaF
 case zaE =>
  refine wp_region_held_drew (S:=fun W'=>W'.rangeAt w.heap.size 0 [.int .i64 k,.bool ex,.string t,.slice ao nk cap]) (by kernel_rfl) hS0 (fun hHeld=>?_);refine' wpAnyH_take (i:=2) (v:=_) rfl (by kernel_rfl) (by kernel_rfl) (by kernel_rfl) (fun _ _ _ h=>h) (yieldsIf_load_mid (by rfl) 26 _ (by rfl) (w.heap.size) 0 (by rfl) ([.int .i64 k,.bool ex,.string t,.slice ao nk cap]) _ (fun w h=>h) Tryz.underlying26 rfl (by kernel_rfl)) (by assumption) ?_;simp only[Act.put,yP];refine wpAnyH_ready (rs:=[0,4]) (by kernel_rfl) (by simp) ?_;refine(AllReadyH.cons rfl (fun K hK=>?Ae) (AllReadyH.cons rfl (fun K hK=>?Af) AllReadyH.nil))
  case Ae =>
   go_simp;refine(HM.out w1.drew).mono ?_;rintro e v1 ⟨rfl,e1⟩;have MG:Below w1.heap.size w1 v1:=Copy.ax e1;refine hK.out _ _ (hS v1 MG) (fun hHeld=>?_);clear hK K e1;refine yT 1 ?_;refine wpAnyH_ready (rs:=[3,4]) (by kernel_rfl) (by simp) ?_;refine(AllReadyH.cons rfl (fun K hK=>?zcL) (AllReadyH.cons rfl (fun K hK=>?zcM) AllReadyH.nil))
   case zcL =>
    go_simp;refine(HV.out v1 (b1.trans ((MG).mono b1.size))).mono ?_;rintro e v2 ⟨e1,a,n,c,m,q,rfl⟩;have G7:Below w1.heap.size w1 v2:=MG.trans (e1.mono MG.size);refine hK.out _ _ (hS v2 G7) (fun hHeld=>?_);clear hK K;clear e1;refine yR 4 (fun K hK=>?_)
    go_simp
    change K _ ((v2).alloc (.cells #[.slice none 0 0,.int .i64 0,.int .i64 0,.string ⟨#[]⟩] 232))
    obtain⟨v3,hA⟩:∃W,((v2).alloc (.cells #[.slice none 0 0,.int .i64 0,.int .i64 0,.string ⟨#[]⟩] 232))=W:=⟨_,rfl⟩;rw[hA];have TG:Below w1.heap.size w1 v3:=(by rw[←hA];exact(G7).alloc (by first|exact Nat.le_refl _|exact(G7).size) _);have xA:Bx v3 (v2).heap.size #[.slice none 0 0,.int .i64 0,.int .i64 0,.string ⟨#[]⟩] 232:=(by rw[←hA];exact Bx.new (v2) _ _);obtain⟨nb,hnb⟩:∃nb,(v2).heap.size=nb:=⟨_,rfl⟩;have CO:w1.heap.size<=nb:=(by rw[←hnb];exact(G7).size);rw[hnb]at xA;refine hK.out _ _ (hS v3 TG) (fun hHeld=>?_)
    try rw[hnb]
    clear hK K hA hnb;have xB:Bx v3 nb #[.slice none 0 0,.int .i64 0,.int .i64 0,.string ⟨#[]⟩] 232:=xA;refine yR 5 (fun K hK=>?_);have c0:v3.cell? ⟨nb,0,none⟩=some (.slice none 0 0):=xB.cell 0;have c1:v3.cell? ⟨nb,1,none⟩=some (.int .i64 0):=xB.cell 1;have c2:v3.cell? ⟨nb,2,none⟩=some (.int .i64 0):=xB.cell 2;have c3:v3.cell? ⟨nb,3,none⟩=some (.string ⟨#[]⟩):=xB.cell 3;have f0:=xB.frozen 0;have f1:=xB.frozen 1;have f2:=xB.frozen 2;have f3:=xB.frozen 3
    go_simp;have bS:Below w1.heap.size w1 ((((v3.setCell ⟨nb,0,none⟩ (.slice a n c)).setCell ⟨nb,1,none⟩ (.int .i64 m)).setCell ⟨nb,2,none⟩ (.int .i64 code)).setCell ⟨nb,3,none⟩ (.string q)):=(((TG.setCell (p:=⟨nb,0,none⟩) CO _).setCell (p:=⟨nb,1,none⟩) CO _).setCell (p:=⟨nb,2,none⟩) CO _).setCell (p:=⟨nb,3,none⟩) CO _;have HF:=yH (show Bx ((((v3.setCell ⟨nb,0,none⟩ (.slice a n c)).setCell ⟨nb,1,none⟩ (.int .i64 m)).setCell ⟨nb,2,none⟩ (.int .i64 code)).setCell ⟨nb,3,none⟩ (.string q)) nb #[.slice a n c,.int .i64 m,.int .i64 code,.string q] 232/\Below w1.heap.size w1 ((((v3.setCell ⟨nb,0,none⟩ (.slice a n c)).setCell ⟨nb,1,none⟩ (.int .i64 m)).setCell ⟨nb,2,none⟩ (.int .i64 code)).setCell ⟨nb,3,none⟩ (.string q))/\w1.heap.size<=nb from⟨(((xB.set 0 (.slice a n c)).set 1 (.int .i64 m)).set 2 (.int .i64 code)).set 3 (.string q),bS,CO⟩);refine hK.out _ _ (hS _ bS) (fun hHeld=>?_);clear hK K c0 c1 c2 c3 f0 f1 f2 f3 xB;refine wpAnyH_done (by kernel_rfl) ?_ _;clear hHeld
    try simp only[List.getElem_toArray,List.getElem_cons_zero,List.getElem_cons_succ,List.set_cons_zero,List.set_cons_succ,List.setIfInBounds_toArray]
    revert HF;generalize ((((v3.setCell ⟨nb,0,none⟩ (.slice a n c)).setCell ⟨nb,1,none⟩ (.int .i64 m)).setCell ⟨nb,2,none⟩ (.int .i64 code)).setCell ⟨nb,3,none⟩ (.string q))=yW;generalize nb=ynb;generalize a=ya;generalize n=yn;generalize c=yc;generalize m=ym;generalize q=yq;revert yW ynb ya yn yc ym yq;exact h1.out
   case zcM =>
    go_simp
    change K _ ((v1).alloc (.cells #[.slice none 0 0,.int .i64 0,.int .i64 0,.string ⟨#[]⟩] 232))
    obtain⟨v2,hA⟩:∃W,((v1).alloc (.cells #[.slice none 0 0,.int .i64 0,.int .i64 0,.string ⟨#[]⟩] 232))=W:=⟨_,rfl⟩;rw[hA];have G7:Below w1.heap.size w1 v2:=(by rw[←hA];exact(MG).alloc (by first|exact Nat.le_refl _|exact(MG).size) _);have xA:Bx v2 (v1).heap.size #[.slice none 0 0,.int .i64 0,.int .i64 0,.string ⟨#[]⟩] 232:=(by rw[←hA];exact Bx.new (v1) _ _);obtain⟨nb,hnb⟩:∃nb,(v1).heap.size=nb:=⟨_,rfl⟩;have CO:w1.heap.size<=nb:=(by rw[←hnb];exact(MG).size);rw[hnb]at xA;refine hK.out _ _ (hS v2 G7) (fun hHeld=>?_)
    try rw[hnb]
    clear hK K hA hnb;refine yR 3 (fun K hK=>?_)
    go_simp;refine(HV.out v2 (b1.trans ((G7).mono b1.size))).mono ?_;rintro e v3 ⟨e1,a,n,c,m,q,rfl⟩;have TG:Below w1.heap.size w1 v3:=G7.trans (e1.mono G7.size);refine hK.out _ _ (hS v3 TG) (fun hHeld=>?_);clear hK K;have xA3:=xA.below e1;clear e1;have xB:Bx v3 nb #[.slice none 0 0,.int .i64 0,.int .i64 0,.string ⟨#[]⟩] 232:=xA3;refine yR 5 (fun K hK=>?_);have c0:v3.cell? ⟨nb,0,none⟩=some (.slice none 0 0):=xB.cell 0;have c1:v3.cell? ⟨nb,1,none⟩=some (.int .i64 0):=xB.cell 1;have c2:v3.cell? ⟨nb,2,none⟩=some (.int .i64 0):=xB.cell 2;have c3:v3.cell? ⟨nb,3,none⟩=some (.string ⟨#[]⟩):=xB.cell 3;have f0:=xB.frozen 0;have f1:=xB.frozen 1;have f2:=xB.frozen 2;have f3:=xB.frozen 3
    go_simp;have bS:Below w1.heap.size w1 ((((v3.setCell ⟨nb,0,none⟩ (.slice a n c)).setCell ⟨nb,1,none⟩ (.int .i64 m)).setCell ⟨nb,2,none⟩ (.int .i64 code)).setCell ⟨nb,3,none⟩ (.string q)):=(((TG.setCell (p:=⟨nb,0,none⟩) CO _).setCell (p:=⟨nb,1,none⟩) CO _).setCell (p:=⟨nb,2,none⟩) CO _).setCell (p:=⟨nb,3,none⟩) CO _;have HF:=yH (show Bx ((((v3.setCell ⟨nb,0,none⟩ (.slice a n c)).setCell ⟨nb,1,none⟩ (.int .i64 m)).setCell ⟨nb,2,none⟩ (.int .i64 code)).setCell ⟨nb,3,none⟩ (.string q)) nb #[.slice a n c,.int .i64 m,.int .i64 code,.string q] 232/\Below w1.heap.size w1 ((((v3.setCell ⟨nb,0,none⟩ (.slice a n c)).setCell ⟨nb,1,none⟩ (.int .i64 m)).setCell ⟨nb,2,none⟩ (.int .i64 code)).setCell ⟨nb,3,none⟩ (.string q))/\w1.heap.size<=nb from⟨(((xB.set 0 (.slice a n c)).set 1 (.int .i64 m)).set 2 (.int .i64 code)).set 3 (.string q),bS,CO⟩);refine hK.out _ _ (hS _ bS) (fun hHeld=>?_);clear hK K c0 c1 c2 c3 f0 f1 f2 f3 xB;refine wpAnyH_done (by kernel_rfl) ?_ _;clear hHeld
    try simp only[List.getElem_toArray,List.getElem_cons_zero,List.getElem_cons_succ,List.set_cons_zero,List.set_cons_succ,List.setIfInBounds_toArray]
    revert HF;generalize ((((v3.setCell ⟨nb,0,none⟩ (.slice a n c)).setCell ⟨nb,1,none⟩ (.int .i64 m)).setCell ⟨nb,2,none⟩ (.int .i64 code)).setCell ⟨nb,3,none⟩ (.string q))=yW;generalize nb=ynb;generalize a=ya;generalize n=yn;generalize c=yc;generalize m=ym;generalize q=yq;revert yW ynb ya yn yc ym yq;exact h1.out
  case Af =>
   go_simp
   change K _ ((w1).alloc (.cells #[.slice none 0 0,.int .i64 0,.int .i64 0,.string ⟨#[]⟩] 232)).drew
   obtain⟨v1,hA⟩:∃W,((w1).alloc (.cells #[.slice none 0 0,.int .i64 0,.int .i64 0,.string ⟨#[]⟩] 232)).drew=W:=⟨_,rfl⟩;rw[hA];have MG:Below w1.heap.size w1 v1:=(by rw[←hA];exact((Below.refl w1.heap.size w1).alloc (by first|exact Nat.le_refl _|exact(Below.refl w1.heap.size w1).size) _).drew);have xA:Bx v1 (w1).heap.size #[.slice none 0 0,.int .i64 0,.int .i64 0,.string ⟨#[]⟩] 232:=(by rw[←hA];exact(Bx.new (w1) _ _).dn ⟨1,rfl⟩);obtain⟨nb,hnb⟩:∃nb,(w1).heap.size=nb:=⟨_,rfl⟩;have CO:w1.heap.size<=nb:=(by rw[←hnb];exact(Below.refl w1.heap.size w1).size);rw[hnb]at xA;refine hK.out _ _ (hS v1 MG) (fun hHeld=>?_)
   try rw[hnb]
   clear hK K hA hnb;refine yR 0 (fun K hK=>?_)
   go_simp;refine(HM.out v1).mono ?_;rintro e v2 ⟨rfl,e1⟩;have G7:Below w1.heap.size w1 v2:=MG.trans (e1.mono MG.size);refine hK.out _ _ (hS v2 G7) (fun hHeld=>?_);clear hK K;have xA2:=xA.below e1;clear e1;refine yT 1 ?_;refine yR 3 (fun K hK=>?_)
   go_simp;refine(HV.out v2 (b1.trans ((G7).mono b1.size))).mono ?_;rintro e v3 ⟨e1,a,n,c,m,q,rfl⟩;have TG:Below w1.heap.size w1 v3:=G7.trans (e1.mono G7.size);refine hK.out _ _ (hS v3 TG) (fun hHeld=>?_);clear hK K;have xA3:=xA2.below e1;clear e1;have xB:Bx v3 nb #[.slice none 0 0,.int .i64 0,.int .i64 0,.string ⟨#[]⟩] 232:=xA3;refine yR 5 (fun K hK=>?_);have c0:v3.cell? ⟨nb,0,none⟩=some (.slice none 0 0):=xB.cell 0;have c1:v3.cell? ⟨nb,1,none⟩=some (.int .i64 0):=xB.cell 1;have c2:v3.cell? ⟨nb,2,none⟩=some (.int .i64 0):=xB.cell 2;have c3:v3.cell? ⟨nb,3,none⟩=some (.string ⟨#[]⟩):=xB.cell 3;have f0:=xB.frozen 0;have f1:=xB.frozen 1;have f2:=xB.frozen 2;have f3:=xB.frozen 3
   go_simp;have bS:Below w1.heap.size w1 ((((v3.setCell ⟨nb,0,none⟩ (.slice a n c)).setCell ⟨nb,1,none⟩ (.int .i64 m)).setCell ⟨nb,2,none⟩ (.int .i64 code)).setCell ⟨nb,3,none⟩ (.string q)):=(((TG.setCell (p:=⟨nb,0,none⟩) CO _).setCell (p:=⟨nb,1,none⟩) CO _).setCell (p:=⟨nb,2,none⟩) CO _).setCell (p:=⟨nb,3,none⟩) CO _;have HF:=yH (show Bx ((((v3.setCell ⟨nb,0,none⟩ (.slice a n c)).setCell ⟨nb,1,none⟩ (.int .i64 m)).setCell ⟨nb,2,none⟩ (.int .i64 code)).setCell ⟨nb,3,none⟩ (.string q)) nb #[.slice a n c,.int .i64 m,.int .i64 code,.string q] 232/\Below w1.heap.size w1 ((((v3.setCell ⟨nb,0,none⟩ (.slice a n c)).setCell ⟨nb,1,none⟩ (.int .i64 m)).setCell ⟨nb,2,none⟩ (.int .i64 code)).setCell ⟨nb,3,none⟩ (.string q))/\w1.heap.size<=nb from⟨(((xB.set 0 (.slice a n c)).set 1 (.int .i64 m)).set 2 (.int .i64 code)).set 3 (.string q),bS,CO⟩);refine hK.out _ _ (hS _ bS) (fun hHeld=>?_);clear hK K c0 c1 c2 c3 f0 f1 f2 f3 xB;refine wpAnyH_done (by kernel_rfl) ?_ _;clear hHeld
   try simp only[List.getElem_toArray,List.getElem_cons_zero,List.getElem_cons_succ,List.set_cons_zero,List.set_cons_succ,List.setIfInBounds_toArray]
   revert HF;generalize ((((v3.setCell ⟨nb,0,none⟩ (.slice a n c)).setCell ⟨nb,1,none⟩ (.int .i64 m)).setCell ⟨nb,2,none⟩ (.int .i64 code)).setCell ⟨nb,3,none⟩ (.string q))=yW;generalize nb=ynb;generalize a=ya;generalize n=yn;generalize c=yc;generalize m=ym;generalize q=yq;revert yW ynb ya yn yc ym yq;exact h1.out
 case zaF =>
  refine yH ?_;intro w2 nb a n c m q HF;clear hS hS0;have xr:=XZ.out.below HF.out.2.1;have lz:=HF.out.2.2;have d0:=HF.out.1.cell 0;have d1:=HF.out.1.cell 1;have d2:=HF.out.1.cell 2;have d3:=HF.out.1.cell 3;have f3:=HF.out.1.frozen 3;have r0:=xr.cell 0;have r1:=xr.cell 1;have r2:=xr.cell 2;have r3:=xr.cell 3;have rf0:=xr.frozen 0;have rf1:=xr.frozen 1;have rf2:=xr.frozen 2;have rf3:=xr.frozen 3;have b2:Below w.heap.size w w2:=b1.trans (HF.out.2.1.mono b1.size);have hne:nb≠w.heap.size+1:=(by omega);by_cases hc:code=0
  ·subst hc
   go_wp2_with fail;obtain⟨WF,oW⟩:∃X,(((((w2.setCell ⟨nb,3,none⟩ (.string ⟨#[]⟩)).setCell ⟨w.heap.size+1,0,none⟩ (.slice a n c)).setCell ⟨w.heap.size+1,1,none⟩ (.int .i64 m)).setCell ⟨w.heap.size+1,2,none⟩ (.int .i64 0)).setCell ⟨w.heap.size+1,3,none⟩ (.string ⟨#[]⟩))=X:=⟨_,rfl⟩;rw[oW];have yf:Bx WF (w.heap.size+1) #[.slice a n c,.int .i64 m,.int .i64 0,.string ⟨#[]⟩] 232:=by
    have:=(((((xr.aH (p:=⟨nb,3,none⟩) (.string ⟨#[]⟩) (fun h=>hne h.symm)).set 0 (.slice a n c)).set 1 (.int .i64 m)).set 2 (.int .i64 0)).set 3 (.string ⟨#[]⟩));rw[oW]at this;exact this
   have kf:Below w.heap.size w WF:=(by rw[←oW];exact(((((b2.setCell (p:=⟨nb,3,none⟩) (by show w.heap.size<=nb;omega) (.string ⟨#[]⟩)).setCell (p:=⟨w.heap.size+1,0,none⟩) (Nat.le_succ _) (.slice a n c)).setCell (p:=⟨w.heap.size+1,1,none⟩) (Nat.le_succ _) (.int .i64 m)).setCell (p:=⟨w.heap.size+1,2,none⟩) (Nat.le_succ _) (.int .i64 0)).setCell (p:=⟨w.heap.size+1,3,none⟩) (Nat.le_succ _) (.string ⟨#[]⟩)));clear oW;have hlv:=run_loadVar_mid (P:=Tryz.prog) WF (w.heap.size+1) 0 232 [.slice a n c,.int .i64 m,.int .i64 0,.string ⟨#[]⟩] _ yf.range Tryz.underlying232 rfl (by kernel_rfl);refine bodyPost_ret (v:=.agg #[.slice a n c,.int .i64 m,.int .i64 0,.string ⟨#[]⟩]) (ai Tryz.results176 rfl hlv) rfl ?_;exact⟨kf,a,n,c,m,⟨#[]⟩,rfl⟩
  ·have t3:(code != 0)=true:=(by rw[bne_iff_ne];exact hc)
   go_wp2_with fail;obtain⟨WF,oW⟩:∃X,((((w2.setCell ⟨w.heap.size+1,0,none⟩ (.slice none 0 0)).setCell ⟨w.heap.size+1,1,none⟩ (.int .i64 0)).setCell ⟨w.heap.size+1,2,none⟩ (.int .i64 code)).setCell ⟨w.heap.size+1,3,none⟩ (.string q))=X:=⟨_,rfl⟩;rw[oW];have yf:Bx WF (w.heap.size+1) #[.slice none 0 0,.int .i64 0,.int .i64 code,.string q] 232:=by
    have:=((((xr.set 0 (.slice none 0 0)).set 1 (.int .i64 0)).set 2 (.int .i64 code)).set 3 (.string q));rw[oW]at this;exact this
   have kf:Below w.heap.size w WF:=(by rw[←oW];exact((((b2.setCell (p:=⟨w.heap.size+1,0,none⟩) (Nat.le_succ _) (.slice none 0 0)).setCell (p:=⟨w.heap.size+1,1,none⟩) (Nat.le_succ _) (.int .i64 0)).setCell (p:=⟨w.heap.size+1,2,none⟩) (Nat.le_succ _) (.int .i64 code)).setCell (p:=⟨w.heap.size+1,3,none⟩) (Nat.le_succ _) (.string q)));clear oW;have hlv:=run_loadVar_mid (P:=Tryz.prog) WF (w.heap.size+1) 0 232 [.slice none 0 0,.int .i64 0,.int .i64 code,.string q] _ yf.range Tryz.underlying232 rfl (by kernel_rfl);refine bodyPost_ret (v:=.agg #[.slice none 0 0,.int .i64 0,.int .i64 code,.string q]) (ai Tryz.results176 rfl hlv) rfl ?_;exact⟨kf,none,0,0,0,q,rfl⟩
end Gz

namespace Gz
open Go.RowKit Mem Tr lK jB jC Name wF J4
set_option maxRecDepth 20000 in
theorem Ah(S:Nat->Prop)(k:Int)(ex:Bool)(t:ByteArray)(ks:Tr.Kids)(kv:Value)(w:World)(hb:ks.bulk<=2097152)(ht:t.size<=2097152)(hk:ay S w kv ks)(hS:∀b,S b->b<w.heap.size) :
 Calls Tryz.prog 140 #[.agg #[.int .i64 k,.bool ex,.string t,kv]] w fun e w'=>Below w.heap.size w w'/\e = .returned (Ai k ex t ks):=by
 obtain⟨ao,cap,rfl,_,_,_⟩:=id hk;obtain⟨nk,hnk⟩:∃nk,ks.len=nk:=⟨_,rfl⟩;rw[hnk]at hk ⊢;have HK:=yH hk;have HS:=yH hS;have HSV:=yH (show Ai k ex t ks=if(cO k ex t ks).2.1=0 then .tuple #[.string ⟨(bG k ex t ks).toArray⟩,.int .i64 0]else .tuple #[.string ⟨#[]⟩,.int .i64 (cO k ex t ks).2.1]from rfl);obtain⟨code,hcode⟩:∃code,(cO k ex t ks).2.1=code:=⟨_,rfl⟩;have hl:=TF S k ex t ks (.slice ao nk cap) w (by omega) (by omega) hk hS;clear hl;have HL:=yH (show ∀W,Below w.heap.size w W->Calls Tryz.prog 176 #[.agg #[.int .i64 k,.bool ex,.string t,.slice ao nk cap]] W fun e w'=>Below W.heap.size W w'/\∃(a:Option Addr) (n c:Nat) (m:Int) (q:ByteArray),e = .returned (.agg #[.slice a n c,.int .i64 m,.int .i64 code,.string q])from fun W h=>by
  rw[←hcode];exact TF S k ex t ks (.slice ao nk cap) W (by omega) (by omega) (HK.out.below h) (fun b hb=>Nat.lt_of_lt_of_le (HS.out b hb) h.size))
 have HRW:=yH (show ∀W,Below w.heap.size w W->Calls Tryz.prog 178 #[.agg #[.int .i64 k,.bool ex,.string t,.slice ao nk cap]] W fun e w'=>∃X:ByteArray,e = .returned (.string X)/\X.data.toList=raw k ex t ks/\Below W.heap.size W w' from fun W h =>
  QA.TE (ks.bulk+1) k ex t ks (.slice ao nk cap) S W (Nat.lt_succ_self _) hb ht (HK.out.below h) (fun b hb=>Nat.lt_of_lt_of_le (HS.out b hb) h.size))
 have VI:=yH (show bG k ex t ks=words kP++raw k ex t ks from rfl);have hrl:=kJ k ex t (fH ks);have hrl2:=jb ks;have vG:=yH (show(raw k ex t ks).length<=429430400 from by unfold raw;omega);rw[hcode]at HSV;clear hcode hk hnk hS hrl hrl2 hb ht
 go_enter Tryz.func140,Tryz.ntmps140
 go_wp2_with fail;refine ae fun w1 hw1=>?_
 obtain⟨b1,x1⟩:=af hw1;have XN:=yH x1;clear hw1 x1;refine(HL.out w1 b1).mono ?_;rintro e w2 ⟨d2,a,n,c,m,q,rfl⟩;have b2:=b1.trans (d2.mono b1.size);have XN2:=yH (XN.out.below d2);clear d2;by_cases hc:code=0
 ·subst hc;have HE:=yH (show Ai k ex t ks = .tuple #[.string ⟨(bG k ex t ks).toArray⟩,.int .i64 0] by rw[HSV.out,if_pos rfl])
  go_wp2_with fail;obtain⟨w3,hw3⟩:∃W,w2.alloc (.cells #[.slice a n c,.int .i64 m,.int .i64 0,.string q] 232)=W:=⟨_,rfl⟩;rw[hw3];have d3:Below w2.heap.size w2 w3:=(by rw[←hw3];exact(Below.refl _ w2).alloc (Nat.le_refl _) _);have b3:=b2.trans (d3.mono b2.size);clear hw3;have hS:∀W',Below w3.heap.size w3 W'->W'.rangeAt w.heap.size 0 [.int .i64 k,.bool ex,.string t,.slice ao nk cap]:=fun W' hb=>by have:=((XN2.out.below d3).below hb).range;simpa using this
  have hS0:=hS w3.drew (Below.refl _ w3).drew;refine wp_region_held_drew (S:=fun W'=>W'.rangeAt w.heap.size 0 [.int .i64 k,.bool ex,.string t,.slice ao nk cap]) (by kernel_rfl) hS0 (fun hHeld=>?_);refine' wpAnyH_take (i:=1) (v:=_) rfl (by kernel_rfl) (by kernel_rfl) (by kernel_rfl) (fun _ _ _ h=>h) (yieldsIf_load_mid (by rfl) 26 _ (by rfl) (w.heap.size) 0 (by rfl) ([.int .i64 k,.bool ex,.string t,.slice ao nk cap]) _ (fun w h=>h) Tryz.underlying26 rfl (by kernel_rfl)) (by assumption) ?_;simp only[Act.put,yP];refine yR 0 (fun K hK=>?_)
  go_simp;refine(DWi.GV ⟨#[100,101,112,111,116,45,97,114,99,104,105,118,101,45,49]⟩ w3.drew (by decide)).mono ?_;rintro e v1 ⟨rfl,e1⟩;have d1:Below w3.heap.size w3 v1:=Copy.ax e1;refine hK.out _ _ (hS v1 d1) (fun hHeld=>?_);clear hK K e1;refine yR 2 (fun K hK=>?_)
  go_simp;refine(HRW.out v1 (b3.trans (d1.mono b3.size))).mono ?_;rintro e v2 ⟨X,rfl,hX,e2⟩;have d2:Below w3.heap.size w3 v2:=d1.trans (e2.mono d1.size);have HX:=yH hX;have hXs:X.size<=429430400:=(by rw[←QA.size_data,hX];exact vG.out);refine hK.out _ _ (hS v2 d2) (fun hHeld=>?_);clear hK K hX e2;obtain⟨M,hM⟩:∃M:ByteArray,(⟨(word (ByteArray.data ⟨#[100,101,112,111,116,45,97,114,99,104,105,118,101,45,49]⟩).toList).toArray⟩:ByteArray)=M:=⟨_,rfl⟩;have hMs:M.size<=24:=(by rw[←hM];decide);have HMD:=yH (show M.data.toList=words kP by rw[←hM];decide);rw[hM];clear hM;refine yT 3 ?_ (hy:=by intro w hSw;go_simp;rw[if_neg (by omega)];try with_reducible rfl);refine yT 4 ?_;refine yT 5 ?_;refine wpAnyH_done (by kernel_rfl) ?_ _;clear hHeld hS hS0
  try simp only[List.getElem_toArray,List.getElem_cons_zero,List.getElem_cons_succ,List.set_cons_zero,List.set_cons_succ,List.setIfInBounds_toArray]
  go_wp2_with fail
  go_ret2;refine⟨b3.trans (d2.mono b3.size),?_⟩;rw[HE.out];have HC:(⟨(bG k ex t ks).toArray⟩:ByteArray)=M++X:=Lb.str_eq (by rw[QA.cat,HMD.out,HX.out,VI.out]);rw[HC];rfl
 ·have t3:(code != 0)=true:=(by rw[bne_iff_ne];exact hc);have HE:=yH (show Ai k ex t ks = .tuple #[.string ⟨#[]⟩,.int .i64 code] by rw[HSV.out,if_neg hc])
  go_wp2_with fail
  go_quiet (fail)
  go_wp2_with fail
  go_ret2;have ba:=b2.alloc b2.size (.cells #[.slice a n c,.int .i64 m,.int .i64 code,.string q] 232);exact⟨ba.trans ((Dn.drewN _ _).below.mono ba.size),by rw[HE.out];rfl⟩
end Gz

namespace zaG
open Go.RowKit Mem Tr lK jB Name jC wF MH J4
open Go.Proofs.YtmmmghpimdfleaaGreatDoor.Sum
open Go.Proofs.YtmmmghpimdfleaaGreatDoor.kD (dZ iZ)
set_option maxRecDepth 100000 in
theorem I5(S:Nat->Prop)(T:Tree)(kv:Value)(w:World)(hk:ay S w kv T.kids)(hS:∀i,S i->i<w.heap.size)(hb:T.bulk<=2097152) :
 Calls Tryz.prog 102 #[iw T kv] w fun e w'=>e = .returned (E9 dZ iZ T)/\Below w.heap.size w w':=by
 obtain⟨k,ex,t,ks⟩:=T;have ht:t.size<=2097152:=(by simp only[Tree.bulk]at hb;omega);have hkb:ks.bulk<=2097152:=(by simp only[Tree.bulk]at hb;omega);have hsl:=iR k ex t ks;obtain⟨ao,cap,hkv,hcl,hcm,hel⟩:=id hk;subst hkv;have HV:Hid (E9 dZ iZ ⟨k,ex,t,ks⟩=if(cO k ex t ks).2.1=0 then .tuple #[.agg (Lib.byteCells (ku.eX dZ iZ (bG k ex t ks))).toArray,.int .i64 ((bG k ex t ks).length:Nat),.int .i64 0]else .tuple #[.agg (Lib.byteCells (List.replicate 32 0)).toArray,.int .i64 0,.int .i64 (cO k ex t ks).2.1]):=yH rfl;unfold iw
 go_enter Tryz.func102,Tryz.ntmps102
 go_wp2_with fail;refine ae fun w0 hw0=>?_
 obtain⟨b0,x0,y0⟩:=aQ hw0;clear hw0;have VJ:=b0.size;refine(Gz.Ah S k ex t ks _ w0 hkb ht (hk.below b0) (fun i hi=>by have:=hS i hi;omega)).mono ?_;rintro e w1 ⟨b1,rfl⟩;have b1s:=b1.size;have yl:=y0.lt;have y1:=y0.below b1;have Y1:=yH y1;clear y0 y1 x0;have hsv:Ai k ex t ks=if(cO k ex t ks).2.1=0 then .tuple #[.string ⟨(bG k ex t ks).toArray⟩,.int .i64 0]else .tuple #[.string ⟨#[]⟩,.int .i64 (cO k ex t ks).2.1]:=rfl
 rw[hsv];clear hsv;generalize hc:(cO k ex t ks).2.1=c at *;by_cases h0:c=0
 ·subst h0;rw[if_pos rfl]at HV;rw[if_pos (rfl:(0:Int)=0)];have hsz:(⟨(bG k ex t ks).toArray⟩:ByteArray).size=(bG k ex t ks).length:=(by simp[bsize]);have hdat:(⟨(bG k ex t ks).toArray⟩:ByteArray).data.toList=bG k ex t ks:=rfl;obtain⟨X,hX⟩:∃X:ByteArray,(⟨(bG k ex t ks).toArray⟩:ByteArray)=X:=⟨_,rfl⟩;rw[hX]at hsz hdat ⊢;have hxl:X.size<=1099511627776:=(by omega);have Yk:=yH hsz;have HD:=yH hdat;clear hsz hdat hX hsl hc
  go_wp2_with fail;refine(kD.ZQ X _ hxl).mono ?_;rintro e w2 ⟨rfl,b2⟩;rw[HD.out];have Vj:=b2.size;obtain⟨D,hD⟩:∃D,Lib.byteCells (ku.eX dZ iZ (bG k ex t ks))=D:=⟨_,rfl⟩;have hDl:D.length=32:=(by rw[←hD,Lib.byteCells_length];exact ku.eu _ _);have yI:∀v∈D,v.oneCell'=true:=fun v hv=>by
   rw[←hD]at hv;obtain⟨j,_,rfl⟩:=List.mem_map.1 hv;rfl
  rw[hD];have Y2:=yH (Y1.out.below b2);have BV:=yH hD;have lC:=yH hDl;have G5:=yH yI;clear hD hDl yI
  go_wp2_with ((refine wpList_store_mid (by rfl) 28 _ _ (by rfl) (w.heap.size+1) 0 D.toArray (by rfl) (by rfl) ?h4 ?h5 ?h6 ?_;rotate_right))
  case h4=>exact Y2.out.there _ (by rw[show D.toArray.size=32 by rw[List.size_toArray,lC.out]];rfl)
  case h5=>rw[List.size_toArray,lC.out];kernel_rfl
  case h6=>exact all_oneCell_toArray G5.out
  have hfin:(w2.setCells (w.heap.size+1) 0 D).rangeAt (w.heap.size+1) 0 D:=World.rangeAt_setCells_same _ _ _ _ (Y2.out.there _ (by rw[lC.out];rfl));have hlv:=run_loadVar_mid (P:=Tryz.prog) _ (w.heap.size+1) 0 28 D _ hfin Tryz.underlying28 rfl (by rw[lC.out];kernel_rfl);refine bodyPost_ret (v:=.tuple #[.agg D.toArray,.int .i64 (X.size:Nat),.int .i64 0]) (ik Tryz.results102 rfl hlv rfl rfl) rfl ⟨?_,?_⟩
  ·rw[HV.out,←BV.out,Yk.out]
  ·exact((b0.trans (b1.mono VJ)).trans (b2.mono (by omega))).grown (ku.dB _ _ _ _) (by omega) (fun k e=>by have:=Option.some.inj e;omega)
 ·rw[if_neg h0]at HV;rw[if_neg h0];have q:(c != 0)=true:=(by simp[h0]);have HZ:=yH (show kD.Ad=(Lib.byteCells (List.replicate 32 0)).toArray by kernel_rfl);clear h0 hc
  go_wp2_with (refine wpList_store_mid (by rfl) 28 _ _ (by rfl) (w.heap.size+1) 0 kD.Ad (by rfl) (by rfl) ?h4 ?h5 ?h6 ?_;rotate_right;refine Mem.named ?_;intro W hW)
  case h4=>first|exact Y1.out.there 32 rfl|exact Y1.out.there _ (by kernel_rfl)|exact Y1.out.there _ rfl
  case h5=>first|exact kD.sH|kernel_rfl
  case h6=>rw[HZ.out];exact all_oneCell_toArray (fun v hv=>by obtain⟨j,_,rfl⟩:=List.mem_map.1 hv;rfl)
  rw[HZ.out]at hW;have hW2:w1.setCells (w.heap.size+1) 0 (Lib.byteCells (List.replicate 32 0))=W:=hW;clear hW;have hfin:W.rangeAt (w.heap.size+1) 0 (Lib.byteCells (List.replicate 32 0)):=(by rw[←hW2];exact World.rangeAt_setCells_same _ _ _ _ (Y1.out.there _ rfl));have hbF:Below w.heap.size w W:=(by rw[←hW2];exact(b0.trans (b1.mono VJ)).grown (ku.dB _ _ _ _) (by omega) (fun k e=>by have:=Option.some.inj e;omega));clear hW2;have hlv:=run_loadVar_mid (P:=Tryz.prog) _ (w.heap.size+1) 0 28 (Lib.byteCells (List.replicate 32 0)) _ hfin Tryz.underlying28 rfl (by kernel_rfl);refine bodyPost_ret (v:=.tuple #[.agg (Lib.byteCells (List.replicate 32 0)).toArray,.int .i64 0,.int .i64 c]) (ik Tryz.results102 rfl hlv rfl rfl) rfl ⟨?_,?_⟩
  ·rw[HV.out]
  ·exact hbF
end zaG

namespace DVa
open Go.RowKit Mem Tr St
open Go.Proofs.YtmmmghpimdfleaaGreatDoor.Own
open Go.Proofs.YtmmmghpimdfleaaGreatDoor.kD (dZ iZ)
theorem zaH(a b:List UInt8)(ha:a.length=32)(hb:b.length=32)(w:World) :
 (Op.equalIn 10000 28 (.agg (Lib.byteCells a).toArray) (.agg (Lib.byteCells b).toArray)).run Tryz.prog w = .ok (a==b) w :=
 run_equalIn_bytes w 9998 28 5 32 Tryz.underlying28 Tryz.underlying5 (fun _=>by kernel_rfl) a b ha hb
theorem VK(s:ByteArray)(w:World)(hs:s.size<=1099511627776):Calls Tryz.prog 138 #[.string s] w fun e w'=>e = .returned (Pre.dY s)/\Below w.heap.size w w' :=
 (DSp.vV s w hs).mono fun e w' h=>⟨h.1,h.2▸Below.refl _ _⟩
theorem zaI(v:Value)(l:List ByteArray)(w:World)(hr:Texts.Reads w v l)(hsz:∀s∈l,s.size<=1099511627776):Calls Tryz.prog 139 #[v] w fun e w'=>e = .returned (.int .i64 (Pre.bZ l))/\Below w.heap.size w w' :=
 (DSp.yD v l w hr hsz).mono fun e w' h=>⟨h.1,h.2▸Below.refl _ _⟩
set_option maxRecDepth 20000 in
theorem vX(S:Nat->Prop)(r:Rec)(cs:List Value)(w:World)(h:aT S w cs r)(hS:∀b,S b->b<w.heap.size)(hb:r.bulk<=2097152) :
 Calls Tryz.prog 101 #[.agg cs.toArray] w fun e w'=>e = .returned (.int .i64 (aJ.bP dZ iZ r))/\Below w.heap.size w w':=by
 have hcl:=h.length;have hps:r.path.size<=1099511627776:=(by unfold Rec.bulk at hb;omega);have zaJ:=yH (show ∀s∈r.refs,s.size<=1099511627776 from fun s hs=>by have h1:=vP hs;unfold Rec.bulk at hb;omega);obtain⟨kv,rv,hcs,hh,hk,hr⟩:=h;have HK:=yH hk;have HR:=yH hr;have wG:=yH hcs.symm;obtain⟨ao,cap,rfl,_,_,_⟩:=hk;obtain⟨dL,cap2,rfl,_,_,_⟩:=hr;obtain⟨q0,q1,q2,q3,q4,q5⟩:=fJ hcs.symm hcl hh;obtain⟨pa,pb,hpe⟩:=Pre.jv r.path;have hP:=fun w1=>VK r.path w1 hps
 rw[hpe]at hP;clear hcs hpe;by_cases h1:Pre.aF r.path=0
 case neg =>
  have hE:aJ.bP dZ iZ r=Pre.aF r.path:=(by unfold aJ.bP;rw[if_neg h1]);rw[hE];obtain⟨z,hz⟩:∃z,Pre.aF r.path=z:=⟨_,rfl⟩;rw[hz]at h1 hP ⊢;have t1:(z != 0)=true:=(by simpa using h1);clear hE hz h1
  go_enter Tryz.func101,Tryz.ntmps101
  go_wp2_with fail;refine ae fun w1 hw1=>?_
  obtain⟨b1,x1⟩:=af hw1;clear hw1 q0 q1 q2 q3 q4 q5 x1;refine(hP w1).mono ?_;rintro e w2 ⟨rfl,b2⟩
  go_wp2_with fail
  go_ret;exact⟨rfl,b1.trans (b2.mono b1.size)⟩
 rw[h1]at hP;have hbt:r.tree.bulk<=2097152:=(by unfold Rec.bulk at hb;omega)
 go_enter Tryz.func101,Tryz.ntmps101
 go_wp2_with fail;refine ae fun w1 hw1=>?_
 obtain⟨b1,x1⟩:=af hw1;have X1:=yH (show RB w1 w.heap.size r (.slice ao r.tree.kids.len cap) (.slice dL r.refs.length cap2)from⟨by rw[wG.out];exact x1,hh⟩);clear hw1 q0 q1 q2 q3 q4 q5 x1;refine(hP w1).mono ?_;rintro e w2 ⟨rfl,b2⟩;clear hP;have X2:=yH (X1.out.below b2);have B2:=b1.trans (b2.mono b1.size);have g1:=X2.out.c1;have g2:=X2.out.c2;have g3:=X2.out.c3;have g4:=X2.out.c4
 go_wp2_with fail;refine(zaG.I5 S r.tree _ w2 (HK.out.below B2) (fun i hi=>Nat.lt_of_lt_of_le (hS i hi) B2.size) hbt).mono ?_;rintro e w3 ⟨rfl,b3⟩;obtain⟨D,sz,hv,hDl,hD0⟩:=sJ dZ iZ r.tree;rw[hv];have HE:Hid (aJ.bP dZ iZ r=if Sum.codeOf r.tree=0 then(if r.size=sz then(if r.hash=D then Pre.bZ r.refs else 131)else 152)else Sum.codeOf r.tree):=yH (by
  unfold aJ.bP;rw[if_pos h1];by_cases h:Sum.codeOf r.tree=0
  ·rw[if_pos h,if_pos h,(hD0 h).1,(hD0 h).2]
  ·rw[if_neg h,if_neg h])
 obtain⟨c,hc⟩:∃c,Sum.codeOf r.tree=c:=⟨_,rfl⟩;rw[hc]at HE ⊢;have B3:=B2.trans (b3.mono B2.size);have X3:=yH (X2.out.below b3);have HQ:=yH (fun w=>zaH r.hash D hh hDl w);obtain⟨DC,CP⟩:∃DC,Lib.byteCells D=DC:=⟨_,rfl⟩;have fK:DC.length=32:=(by rw[←CP,Lib.byteCells_length,hDl]);have uH:∀v∈DC,v.oneCell'=true:=(by rw[←CP];exact oI D);rw[CP]at HQ ⊢;obtain⟨RC,yJ⟩:∃RC,Lib.byteCells r.hash=RC:=⟨_,rfl⟩;rw[yJ]at HQ;have MI:RC.length=32:=(by rw[←yJ,Lib.byteCells_length,hh]);have MJ:=yH yJ;have VL:=yH CP;clear hc hv hD0 h1 CP yJ g1 g2 g3 g4 hDl;by_cases h2:c=0
 case neg =>
  have t2:(c != 0)=true:=(by simpa using h2)
  go_wp2_with (refine wpList_store_mid (by rfl) 28 _ _ (by rfl) w3.heap.size 0 DC.toArray (by rfl) (by rfl) ?h4 ?h5 ?h6 ?_;rotate_right;refine Mem.named ?_;intro W hW)
  case h4=>exact(Bx.new w3 _ _).there _ (by rw[show DC.toArray.size=32 by simpa using fK];rfl)
  case h5=>rw[List.size_toArray,fK];kernel_rfl
  case h6=>exact all_oneCell_toArray uH
  have B4:=B3.trans ((aX hW).mono B3.size)
  go_ret;exact⟨by rw[HE.out,if_neg h2];rfl,B4⟩
 subst h2;have HE2:Hid (aJ.bP dZ iZ r=if r.size=sz then(if r.hash=D then Pre.bZ r.refs else 131)else 152):=yH (by rw[HE.out,if_pos rfl]);clear HE;by_cases h3:r.size=sz
 case neg =>
  have t3:(r.size != sz)=true:=(by simpa using h3)
  go_wp2_with (refine wpList_store_mid (by rfl) 28 _ _ (by rfl) w3.heap.size 0 DC.toArray (by rfl) (by rfl) ?a4 ?a5 ?a6 ?_;rotate_right;refine Mem.named ?_;intro W hW;have g38:=(X3.out.below (aX hW)).G8)
  case a4=>exact(Bx.new w3 _ _).there _ (by rw[show DC.toArray.size=32 by simpa using fK];rfl)
  case a5=>rw[List.size_toArray,fK];kernel_rfl
  case a6=>exact all_oneCell_toArray uH
  have B4:=B3.trans ((aX hW).mono B3.size)
  go_ret;exact⟨by rw[HE2.out,if_neg h3];rfl,B4⟩
 have t3:(r.size != sz)=false:=(by simpa using h3);have hu:=Tryz.underlying29;have hu2:=Tryz.underlying28;by_cases h4:r.hash=D
 case neg =>
  have hq:∀w,(Op.equalIn 10000 28 (.agg RC.toArray) (.agg DC.toArray)).run Tryz.prog w = .ok false w:=fun w=>by rw[HQ.out w];congr 1;simpa using h4
  go_wp2_with (first
   | (refine wpList_store_mid (by rfl) 28 _ _ (by rfl) w3.heap.size 0 DC.toArray (by rfl) (by rfl) ?b4 ?b5 ?b6 ?_;rotate_right;refine Mem.named ?_;intro W hW;have g38:=(X3.out.below (aX hW)).G8;have r1:=(X3.out.below (aX hW)).hash;rw[MJ.out]at r1;have r2:=aZ hW (fK.symm))
   | (refine wpList_load_mid rfl 29 _ (by rfl) w.heap.size 6 (by rfl) RC _ r1 hu rfl (by rw[MI];kernel_rfl) ?_)
   | (refine wpList_load_mid rfl 28 _ (by rfl) w3.heap.size 0 (by rfl) DC _ r2 hu2 rfl (by rw[fK];kernel_rfl) ?_))
  case b4=>exact(Bx.new w3 _ _).there _ (by rw[show DC.toArray.size=32 by simpa using fK];rfl)
  case b5=>rw[List.size_toArray,fK];kernel_rfl
  case b6=>exact all_oneCell_toArray uH
  have B4:=B3.trans ((aX hW).mono B3.size)
  go_ret;exact⟨by rw[HE2.out,if_pos h3,if_neg h4];rfl,B4⟩
 have hq:∀w,(Op.equalIn 10000 28 (.agg RC.toArray) (.agg DC.toArray)).run Tryz.prog w = .ok true w:=fun w=>by rw[HQ.out w];congr 1;simpa using h4
 go_wp2_with (first
  | (refine wpList_store_mid (by rfl) 28 _ _ (by rfl) w3.heap.size 0 DC.toArray (by rfl) (by rfl) ?c4 ?c5 ?c6 ?_;rotate_right;refine Mem.named ?_;intro W hW;have g38:=(X3.out.below (aX hW)).G8;have g5:=(X3.out.below (aX hW)).c5;have r1:=(X3.out.below (aX hW)).hash;rw[MJ.out]at r1;have r2:=aZ hW (fK.symm))
  | (refine wpList_load_mid rfl 29 _ (by rfl) w.heap.size 6 (by rfl) RC _ r1 hu rfl (by rw[MI];kernel_rfl) ?_)
  | (refine wpList_load_mid rfl 28 _ (by rfl) w3.heap.size 0 (by rfl) DC _ r2 hu2 rfl (by rw[fK];kernel_rfl) ?_))
 case c4=>exact(Bx.new w3 _ _).there _ (by rw[show DC.toArray.size=32 by simpa using fK];rfl)
 case c5=>rw[List.size_toArray,fK];kernel_rfl
 case c6=>exact all_oneCell_toArray uH
 have B4:=B3.trans ((aX hW).mono B3.size);refine(zaI _ r.refs W (HR.out.below B4).reads zaJ.out).mono ?_;rintro e w5 ⟨rfl,b5⟩
 go_wp2_with fail
 go_ret;exact⟨by rw[HE2.out,if_pos h3,if_pos h4];rfl,B4.trans (b5.mono B4.size)⟩
end DVa
end Go.Proofs.YtmmmghpimdfleaaGreatDoor
