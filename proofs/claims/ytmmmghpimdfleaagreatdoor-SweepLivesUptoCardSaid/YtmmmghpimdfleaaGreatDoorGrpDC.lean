/-
  The document's visit: both halves.
  The document's Raw: the bytes of a node (printed by tools/mkraw.py).
  The document's Look: the number of a tree's first offence (printed by tools/mklook.py).
  The document's Serial.
  The document's Sum (printed by tools/mkdsum.py out of listing.Sum's walk).
  The document's Valid (printed by tools/mkdval.py out of store.valid's walk).
-/
import Derived.Test.YtmmmghpimdfleaaGreatDoorDViA
import Derived.Test.YtmmmghpimdfleaaGreatDoorDViB
import Derived.Test.YtmmmghpimdfleaaGreatDoorGrpDA
import Derived.Test.YtmmmghpimdfleaaGreatDoorGrpJ
import Derived.Test.YtmmmghpimdfleaaGreatDoorGrpDB
import Derived.Test.YtmmmghpimdfleaaGreatDoorStock
set_option linter.unusedVariables false
set_option linter.unusedSimpArgs false
namespace Go.Proofs.YtmmmghpimdfleaaGreatDoor.DTr
open Go.RowKit Mem Tr Wire TreeW TreeN Name
theorem visitAll (B:Nat) (S:Nat->Prop):∀N,VisAt B S N:=by
 intro N
 induction N with
 | zero=>intro k ex t ks kv path p0 depth n nr rv xs w h;omega
 | succ N ih =>
  intro k ex t ks kv path p0 depth n nr rv xs w hN hB ht hk hS hps hd1 hd33 hn hnr hrow hBw;by_cases hdep:depth=1
  · exact visitA B S N ih k ex t ks kv path p0 depth n nr rv xs w hdep hN hB ht hk hS hps hd1 hd33 hn hnr hrow hBw
  · exact visitB B S N ih k ex t ks kv path p0 depth n nr rv xs w hdep hN hB ht hk hS hps hd1 hd33 hn hnr hrow hBw
theorem visitN (B:Nat) (S:Nat->Prop):∀ (N:Nat) (k:Int) (ex:Bool) (t:ByteArray) (ks:Tr.Kids) (kv:Value) (path p0:ByteArray) (depth n nr:Nat) (rv:Value) (xs:List Value) (w:World),ks.bulk < N->ks.bulk<=4194304->t.size<=4194304->KidsAt S w kv ks->(∀b,S b->b < w.heap.size/\rv.ownBlock≠some b) ->
 path.size<=depth*4194305->1<=depth->depth<=33->n<=1048576->nr<=n->w.ownsRow B 283 4 rv nr xs->B<=w.heap.size ->
 Calls Tryz.prog 207 #[.agg #[rv,.int .i64 (n:Nat),.int .i64 0,.string p0],.string path,.agg #[.int .i64 k,.bool ex,.string t,kv],.int .i64 (depth:Nat)] w (PostVK B w rv (nodeR path depth k ex t ks n)):=visitAll B S
end Go.Proofs.YtmmmghpimdfleaaGreatDoor.DTr

namespace Go.Proofs.YtmmmghpimdfleaaGreatDoor.DRaw
open Go.RowKit Mem Tr Nar Wire
theorem word_len (l:List UInt8):(word l).length<=l.length+15:=by
 unfold word;simp [Rep.le64_length];omega
theorem cat (a b:ByteArray):(a ++ b).data.toList=a.data.toList ++ b.data.toList:=by simp
theorem cat_size (a b:ByteArray):(a ++ b).size=a.size+b.size:=by simp
theorem size_data (a:ByteArray):a.data.toList.length=a.size:=by simp
set_option maxHeartbeats 1000000 in
theorem framedC (s:ByteArray) (w:World) (hs:s.size<=2097152) :
 Calls Tryz.prog 210 #[.string s] w fun e w'=>∃X:ByteArray,e = .returned (.string X)/\X.data.toList=word s.data.toList/\X.size<=s.size+15/\Below w.heap.size w w':=by
 have HX:=Lib.hid (show ∃X:ByteArray,X.data.toList=word s.data.toList/\X=⟨(word s.data.toList).toArray⟩ from ⟨_,by simp,rfl⟩)
 go_enter Tryz.func210,Tryz.ntmps210
 go_wp2_with fail;refine (DWi.textC s w hs).mono ?_;rintro e w1 ⟨rfl,b1⟩;obtain ⟨X,hX,hX2⟩:=HX.out;rw [←hX2];clear hX2
 go_wp2_with fail
 go_ret;refine ⟨X,rfl,hX,?_,b1⟩;have h:=word_len s.data.toList;rw [←size_data,hX,←size_data s];exact h
set_option maxHeartbeats 16000000 in
set_option maxRecDepth 20000 in
theorem rawNC:∀ (N:Nat) (k:Int) (ex:Bool) (t:ByteArray) (ks:Tr.Kids) (kv:Value) (S:Nat->Prop) (w:World),ks.bulk < N->ks.bulk<=2097152->t.size<=2097152->KidsAt S w kv ks->(∀b,S b->b < w.heap.size) ->
 Calls Tryz.prog 178 #[.agg #[.int .i64 k,.bool ex,.string t,kv]] w fun e w'=>∃X:ByteArray,e = .returned (.string X)/\X.data.toList=raw k ex t ks/\Below w.heap.size w w':=by
 intro N
 induction N with
 | zero=>intro k ex t ks kv S w h;omega
 | succ N ih =>
  intro k ex t ks kv S w hN hB ht hk hS;obtain ⟨ao,cap,rfl,hcl,hcm,hel⟩:=id hk;obtain ⟨nk,hnk⟩:∃nk,ks.len=nk:=⟨_,rfl⟩;have hnk8:nk<=2097152:=(by have:=ks.len_le;omega);have HNK:=Lib.hid hnk;have HK:=Lib.hid hk;have HS:=Lib.hid hS;have HN:=Lib.hid hN;have HB:=Lib.hid hB;rw [hnk] at HK;rw [hnk];clear hk hS hN hB hel hcl hcm hnk;by_cases hk1:k=1
  · subst hk1
    go_enter Tryz.func178,Tryz.ntmps178
    go_wp2_with fail;obtain ⟨w1,hw1⟩:∃W,w.alloc (.cells #[.int .i64 1,.bool ex,.string t,.slice ao nk cap] 26)=W:=⟨_,rfl⟩;rw [hw1];obtain ⟨bb,x1⟩:=alloc_fact hw1;have XB:=Lib.hid x1;clear hw1 x1;have HP:=Lib.hid (show ∀W,Below w1.heap.size w1 W->Bx W w.heap.size #[.int .i64 1,.bool ex,.string t,.slice ao nk cap] 26 from fun W hb=>XB.out.below hb);have c0:w1.cell? ⟨w.heap.size,0,none⟩=some (.int .i64 1):=XB.out.cell 0;have c1:w1.cell? ⟨w.heap.size,1,none⟩=some (.bool ex):=XB.out.cell 1;refine (framedC (⟨#[114,101,103,117,108,97,114]⟩) w1 (by decide)).mono ?_;rintro e v1 ⟨X1,rfl,hx1,hz1,d1⟩;have HX1:=Lib.hid hx1;clear hx1;have b1:=d1;have r1:X1.size<=22:=hz1;clear c0 c1 hz1;have c1:=(HP.out v1 b1).cell 1;by_cases hex:ex=true
    · subst hex
      go_wp2_with fail;refine (framedC (⟨#[101,120,101,99,117,116,97,98,108,101]⟩) v1 (by decide)).mono ?_;rintro e v2 ⟨X2,rfl,hx2,hz2,d2⟩;have HX2:=Lib.hid hx2;clear hx2;have b2:=b1.trans (d2.mono b1.size)
      go_wp2_with fail;refine (framedC (⟨#[]⟩) v2 (by decide)).mono ?_;rintro e v3 ⟨X3,rfl,hx3,hz3,d3⟩;have HX3:=Lib.hid hx3;clear hx3;have b3:=b2.trans (d3.mono b2.size);have r2:X2.size<=25:=hz2;have r3:X3.size<=15:=hz3;clear hz2 hz3 c1;obtain ⟨Z,hZ⟩:∃Z,X1 ++ (X2 ++ X3)=Z:=⟨_,rfl⟩;have hZs:Z.size<=100:=(by rw [←hZ,cat_size,cat_size];omega);have HZ:=Lib.hid (show Z.data.toList=_ from by rw [←hZ,cat,cat,HX1.out,HX2.out,HX3.out]);have HZ2:=Lib.hid hZ;clear hZ
      go_wp2_with fail;rw [HZ2.out];have hS:∀W',Below v3.heap.size v3 W'->W'.cell? ⟨w.heap.size,2,none⟩=some (.string t):=fun W' hb=>(HP.out W' (b3.trans (hb.mono b3.size))).cell 2
      have hS0:=hS v3.drew (Below.refl _ v3).drew;refine wp_region_held_drew (S:=fun W'=>W'.cell? ⟨w.heap.size,2,none⟩=some (.string t)) (by kernel_rfl) hS0 (fun hHeld=>?_);refine wpAnyH_take (i:=0) (v:=?_) rfl (by kernel_rfl) (by kernel_rfl) (by kernel_rfl) (fun _ _ _ h=>h) (Or.inl ⟨by rfl,?_⟩) (by assumption) ?_
      rotate_left
      · (intro w hSw;go_simp;try with_reducible rfl)
      simp only [Act.put,List.setIfInBounds_toArray,List.set_cons_zero,List.set_cons_succ];refine wpAnyH_take (i:=2) (v:=?_) rfl (by kernel_rfl) (by kernel_rfl) (by kernel_rfl) (fun _ _ _ h=>h) (Or.inl ⟨by rfl,?_⟩) (by assumption) ?_
      rotate_left
      · (intro w hSw;go_simp;try with_reducible rfl)
      simp only [Act.put,List.setIfInBounds_toArray,List.set_cons_zero,List.set_cons_succ];refine wpAnyH_take (i:=3) (v:=?_) rfl (by kernel_rfl) (by kernel_rfl) (by kernel_rfl) (fun _ _ _ h=>h) (Or.inl ⟨by rfl,?_⟩) (by assumption) ?_
      rotate_left
      · (intro w hSw;go_simp;try with_reducible rfl)
      simp only [Act.put,List.setIfInBounds_toArray,List.set_cons_zero,List.set_cons_succ];refine wpAnyH_ready (rs:=[1]) (by kernel_rfl) (by simp) ?_;refine (AllReadyH.cons rfl (fun K hK=>?_) AllReadyH.nil)
      go_simp;refine (framedC ⟨#[99,111,110,116,101,110,116,115]⟩ v3.drew (by decide)).mono ?_;rintro e v4 ⟨X4,rfl,hx4,hz4,d4'⟩;have d4:Below v3.heap.size v3 v4:=Copy.below_undrew d4';have HX4:=Lib.hid hx4;refine hK.out _ _ (hS v4 d4) (fun hHeld=>?_);clear hK K hx4 d4';refine wpAnyH_ready (rs:=[4]) (by kernel_rfl) (by simp) ?_;refine (AllReadyH.cons rfl (fun K hK=>?_) AllReadyH.nil)
      go_simp;refine (framedC t v4 ht).mono ?_;rintro e v5 ⟨X5,rfl,hx5,hz5,e5⟩;have d5:Below v3.heap.size v3 v5:=d4.trans (e5.mono d4.size);have HX5:=Lib.hid hx5;refine hK.out _ _ (hS v5 d5) (fun hHeld=>?_);clear hK K hx5;have q1:X4.size<=23:=hz4;have q2:X5.size<=2097167:=(by omega);clear hz4 hz5;refine wpAnyH_take (i:=5) (v:=?_) rfl (by kernel_rfl) (by kernel_rfl) (by kernel_rfl) (fun _ _ _ h=>h) (Or.inl ⟨by rfl,?_⟩) (by assumption) ?_
      rotate_left
      · (intro w hSw;go_simp;rw [if_neg (by omega)];try with_reducible rfl)
      simp only [Act.put,List.setIfInBounds_toArray,List.set_cons_zero,List.set_cons_succ];refine wpAnyH_take (i:=6) (v:=?_) rfl (by kernel_rfl) (by kernel_rfl) (by kernel_rfl) (fun _ _ _ h=>h) (Or.inl ⟨by rfl,?_⟩) (by assumption) ?_
      rotate_left
      · (intro w hSw;go_simp;rw [if_neg (by omega)];try with_reducible rfl)
      simp only [Act.put,List.setIfInBounds_toArray,List.set_cons_zero,List.set_cons_succ];refine wpAnyH_take (i:=7) (v:=?_) rfl (by kernel_rfl) (by kernel_rfl) (by kernel_rfl) (fun _ _ _ h=>h) (Or.inl ⟨by rfl,?_⟩) (by assumption) ?_
      rotate_left
      · (intro w hSw;go_simp;try with_reducible rfl)
      simp only [Act.put,List.setIfInBounds_toArray,List.set_cons_zero,List.set_cons_succ];refine wpAnyH_done (by kernel_rfl) ?_ _;clear hHeld hS hS0;simp only [List.getElem_toArray,List.getElem_cons_zero,List.getElem_cons_succ,List.set_cons_zero,List.set_cons_succ,List.setIfInBounds_toArray];have b5:=b3.trans (d5.mono b3.size);obtain ⟨Y,hY⟩:∃Y,Z ++ (X4 ++ X5)=Y:=⟨_,rfl⟩;have hYs:Y.size<=4194304:=(by rw [←hY,cat_size,cat_size];omega);have HY:=Lib.hid (show Y.data.toList=_ from by rw [←hY,cat,cat,HX4.out,HX5.out]);rw [hY];clear hY
      go_wp2_with fail;refine (framedC (⟨#[40]⟩) v5 (by decide)).mono ?_;rintro e v6 ⟨X6,rfl,hx6,hz6,d6⟩;have HX6:=Lib.hid hx6;clear hx6;have s6:X6.size<=16:=hz6;clear hz6;have b6:=b5.trans (d6.mono b5.size)
      go_wp2_with fail;refine (framedC (⟨#[116,121,112,101]⟩) v6 (by decide)).mono ?_;rintro e v7 ⟨X7,rfl,hx7,hz7,d7⟩;have HX7:=Lib.hid hx7;clear hx7;have s7:X7.size<=19:=hz7;clear hz7;have b7:=b6.trans (d7.mono b6.size)
      go_wp2_with fail;refine (framedC (⟨#[41]⟩) v7 (by decide)).mono ?_;rintro e v8 ⟨X8,rfl,hx8,hz8,d8⟩;have HX8:=Lib.hid hx8;clear hx8;have s8:X8.size<=16:=hz8;clear hz8;have b8:=b7.trans (d8.mono b7.size)
      go_wp2_with fail
      go_ret;refine ⟨_,rfl,?_,bb.trans (b8.mono bb.size)⟩;rw [cat,cat,cat,HX6.out,HX7.out,HX8.out];rw [HY.out,HZ.out];simp only [raw,rawN,words,List.append_assoc,List.append_nil,List.nil_append]
      try rfl
    · have hex':ex=false:=(by cases ex;rfl;exact absurd rfl hex);subst hex';clear hex;have hS:∀W',Below v1.heap.size v1 W'->W'.cell? ⟨w.heap.size,2,none⟩=some (.string t):=fun W' hb=>(HP.out W' (b1.trans (hb.mono b1.size))).cell 2
      have hS0:=hS v1.drew (Below.refl _ v1).drew
      go_wp2_with fail;refine wp_region_held_drew (S:=fun W'=>W'.cell? ⟨w.heap.size,2,none⟩=some (.string t)) (by kernel_rfl) hS0 (fun hHeld=>?_);refine wpAnyH_take (i:=0) (v:=?_) rfl (by kernel_rfl) (by kernel_rfl) (by kernel_rfl) (fun _ _ _ h=>h) (Or.inl ⟨by rfl,?_⟩) (by assumption) ?_
      rotate_left
      · (intro w hSw;go_simp;try with_reducible rfl)
      simp only [Act.put,List.setIfInBounds_toArray,List.set_cons_zero,List.set_cons_succ];refine wpAnyH_take (i:=2) (v:=?_) rfl (by kernel_rfl) (by kernel_rfl) (by kernel_rfl) (fun _ _ _ h=>h) (Or.inl ⟨by rfl,?_⟩) (by assumption) ?_
      rotate_left
      · (intro w hSw;go_simp;try with_reducible rfl)
      simp only [Act.put,List.setIfInBounds_toArray,List.set_cons_zero,List.set_cons_succ];refine wpAnyH_take (i:=3) (v:=?_) rfl (by kernel_rfl) (by kernel_rfl) (by kernel_rfl) (fun _ _ _ h=>h) (Or.inl ⟨by rfl,?_⟩) (by assumption) ?_
      rotate_left
      · (intro w hSw;go_simp;try with_reducible rfl)
      simp only [Act.put,List.setIfInBounds_toArray,List.set_cons_zero,List.set_cons_succ];refine wpAnyH_ready (rs:=[1]) (by kernel_rfl) (by simp) ?_;refine (AllReadyH.cons rfl (fun K hK=>?_) AllReadyH.nil)
      go_simp;refine (framedC ⟨#[99,111,110,116,101,110,116,115]⟩ v1.drew (by decide)).mono ?_;rintro e v9 ⟨X9,rfl,hx9,hz9,d9'⟩;have d9:Below v1.heap.size v1 v9:=Copy.below_undrew d9';have HX9:=Lib.hid hx9;refine hK.out _ _ (hS v9 d9) (fun hHeld=>?_);clear hK K hx9 d9';refine wpAnyH_ready (rs:=[4]) (by kernel_rfl) (by simp) ?_;refine (AllReadyH.cons rfl (fun K hK=>?_) AllReadyH.nil)
      go_simp;refine (framedC t v9 ht).mono ?_;rintro e v10 ⟨X10,rfl,hx10,hz10,e10⟩;have d10:Below v1.heap.size v1 v10:=d9.trans (e10.mono d9.size);have HX10:=Lib.hid hx10;refine hK.out _ _ (hS v10 d10) (fun hHeld=>?_);clear hK K hx10;have q1:X9.size<=23:=hz9;have q2:X10.size<=2097167:=(by omega);clear hz9 hz10;refine wpAnyH_take (i:=5) (v:=?_) rfl (by kernel_rfl) (by kernel_rfl) (by kernel_rfl) (fun _ _ _ h=>h) (Or.inl ⟨by rfl,?_⟩) (by assumption) ?_
      rotate_left
      · (intro w hSw;go_simp;rw [if_neg (by omega)];try with_reducible rfl)
      simp only [Act.put,List.setIfInBounds_toArray,List.set_cons_zero,List.set_cons_succ];refine wpAnyH_take (i:=6) (v:=?_) rfl (by kernel_rfl) (by kernel_rfl) (by kernel_rfl) (fun _ _ _ h=>h) (Or.inl ⟨by rfl,?_⟩) (by assumption) ?_
      rotate_left
      · (intro w hSw;go_simp;rw [if_neg (by omega)];try with_reducible rfl)
      simp only [Act.put,List.setIfInBounds_toArray,List.set_cons_zero,List.set_cons_succ];refine wpAnyH_take (i:=7) (v:=?_) rfl (by kernel_rfl) (by kernel_rfl) (by kernel_rfl) (fun _ _ _ h=>h) (Or.inl ⟨by rfl,?_⟩) (by assumption) ?_
      rotate_left
      · (intro w hSw;go_simp;try with_reducible rfl)
      simp only [Act.put,List.setIfInBounds_toArray,List.set_cons_zero,List.set_cons_succ];refine wpAnyH_done (by kernel_rfl) ?_ _;clear hHeld hS hS0;simp only [List.getElem_toArray,List.getElem_cons_zero,List.getElem_cons_succ,List.set_cons_zero,List.set_cons_succ,List.setIfInBounds_toArray];have b10:=b1.trans (d10.mono b1.size);obtain ⟨Y,hY⟩:∃Y,X1 ++ (X9 ++ X10)=Y:=⟨_,rfl⟩;have hYs:Y.size<=4194304:=(by rw [←hY,cat_size,cat_size];omega);have HY:=Lib.hid (show Y.data.toList=_ from by rw [←hY,cat,cat,HX9.out,HX10.out]);rw [hY];clear hY
      go_wp2_with fail;refine (framedC (⟨#[40]⟩) v10 (by decide)).mono ?_;rintro e v11 ⟨X11,rfl,hx11,hz11,d11⟩;have HX11:=Lib.hid hx11;clear hx11;have s11:X11.size<=16:=hz11;clear hz11;have b11:=b10.trans (d11.mono b10.size)
      go_wp2_with fail;refine (framedC (⟨#[116,121,112,101]⟩) v11 (by decide)).mono ?_;rintro e v12 ⟨X12,rfl,hx12,hz12,d12⟩;have HX12:=Lib.hid hx12;clear hx12;have s12:X12.size<=19:=hz12;clear hz12;have b12:=b11.trans (d12.mono b11.size)
      go_wp2_with fail;refine (framedC (⟨#[41]⟩) v12 (by decide)).mono ?_;rintro e v13 ⟨X13,rfl,hx13,hz13,d13⟩;have HX13:=Lib.hid hx13;clear hx13;have s13:X13.size<=16:=hz13;clear hz13;have b13:=b12.trans (d13.mono b12.size)
      go_wp2_with fail
      go_ret;refine ⟨_,rfl,?_,bb.trans (b13.mono bb.size)⟩;rw [cat,cat,cat,HX11.out,HX12.out,HX13.out];rw [HY.out,HX1.out];simp only [raw,rawN,words,List.append_assoc,List.append_nil,List.nil_append]
      try rfl
  by_cases hk2:k=2
  · have k1':(k == 1)=false:=(by rw [beq_eq_false_iff_ne];exact hk1);subst hk2
    go_enter Tryz.func178,Tryz.ntmps178
    go_wp2_with fail;obtain ⟨w1,hw1⟩:∃W,w.alloc (.cells #[.int .i64 2,.bool ex,.string t,.slice ao nk cap] 26)=W:=⟨_,rfl⟩;rw [hw1];obtain ⟨bb,x1⟩:=alloc_fact hw1;have XB:=Lib.hid x1;clear hw1 x1;have HP:=Lib.hid (show ∀W,Below w1.heap.size w1 W->Bx W w.heap.size #[.int .i64 2,.bool ex,.string t,.slice ao nk cap] 26 from fun W hb=>XB.out.below hb);have c0:w1.cell? ⟨w.heap.size,0,none⟩=some (.int .i64 2):=XB.out.cell 0;have c1:w1.cell? ⟨w.heap.size,1,none⟩=some (.bool ex):=XB.out.cell 1;clear c0 c1;have hS:∀W',Below w1.heap.size w1 W'->W'.cell? ⟨w.heap.size,2,none⟩=some (.string t):=fun W' hb=>(HP.out W' hb).cell 2
    have hS0:=hS w1.drew (Below.refl _ w1).drew;refine wp_region_held_drew (S:=fun W'=>W'.cell? ⟨w.heap.size,2,none⟩=some (.string t)) (by kernel_rfl) hS0 (fun hHeld=>?_);refine wpAnyH_take (i:=3) (v:=?_) rfl (by kernel_rfl) (by kernel_rfl) (by kernel_rfl) (fun _ _ _ h=>h) (Or.inl ⟨by rfl,?_⟩) (by assumption) ?_
    rotate_left
    · (intro w hSw;go_simp;try with_reducible rfl)
    simp only [Act.put,List.setIfInBounds_toArray,List.set_cons_zero,List.set_cons_succ];refine wpAnyH_take (i:=4) (v:=?_) rfl (by kernel_rfl) (by kernel_rfl) (by kernel_rfl) (fun _ _ _ h=>h) (Or.inl ⟨by rfl,?_⟩) (by assumption) ?_
    rotate_left
    · (intro w hSw;go_simp;try with_reducible rfl)
    simp only [Act.put,List.setIfInBounds_toArray,List.set_cons_zero,List.set_cons_succ];refine wpAnyH_ready (rs:=[0]) (by kernel_rfl) (by simp) ?_;refine (AllReadyH.cons rfl (fun K hK=>?_) AllReadyH.nil)
    go_simp;refine (framedC (⟨#[115,121,109,108,105,110,107]⟩) w1.drew (by decide)).mono ?_;rintro e v14 ⟨X14,rfl,hx14,hz14,e14⟩;have d14:Below w1.heap.size w1 v14:=Copy.below_undrew e14;have HX14:=Lib.hid hx14;have s14:X14.size<=22:=hz14;refine hK.out _ _ (hS v14 d14) (fun hHeld=>?_);clear hK K hx14 hz14 e14;refine wpAnyH_ready (rs:=[1]) (by kernel_rfl) (by simp) ?_;refine (AllReadyH.cons rfl (fun K hK=>?_) AllReadyH.nil)
    go_simp;refine (framedC (⟨#[116,97,114,103,101,116]⟩) v14 (by decide)).mono ?_;rintro e v15 ⟨X15,rfl,hx15,hz15,e15⟩;have d15:Below w1.heap.size w1 v15:=d14.trans (e15.mono d14.size);have HX15:=Lib.hid hx15;have s15:X15.size<=21:=hz15;refine hK.out _ _ (hS v15 d15) (fun hHeld=>?_);clear hK K hx15 hz15 e15;refine wpAnyH_take (i:=2) (v:=?_) rfl (by kernel_rfl) (by kernel_rfl) (by kernel_rfl) (fun _ _ _ h=>h) (Or.inl ⟨by rfl,?_⟩) (by assumption) ?_
    rotate_left
    · (intro w hSw;go_simp;rw [if_neg (by omega)];try with_reducible rfl)
    simp only [Act.put,List.setIfInBounds_toArray,List.set_cons_zero,List.set_cons_succ];refine wpAnyH_ready (rs:=[5]) (by kernel_rfl) (by simp) ?_;refine (AllReadyH.cons rfl (fun K hK=>?_) AllReadyH.nil)
    go_simp;refine (framedC (t) v15 (ht)).mono ?_;rintro e v16 ⟨X16,rfl,hx16,hz16,e16⟩;have d16:Below w1.heap.size w1 v16:=d15.trans (e16.mono d15.size);have HX16:=Lib.hid hx16;have s16:X16.size<=2097167:=(by omega);refine hK.out _ _ (hS v16 d16) (fun hHeld=>?_);clear hK K hx16 hz16 e16;refine wpAnyH_take (i:=6) (v:=?_) rfl (by kernel_rfl) (by kernel_rfl) (by kernel_rfl) (fun _ _ _ h=>h) (Or.inl ⟨by rfl,?_⟩) (by assumption) ?_
    rotate_left
    · (intro w hSw;go_simp;rw [if_neg (by omega)];try with_reducible rfl)
    simp only [Act.put,List.setIfInBounds_toArray,List.set_cons_zero,List.set_cons_succ];refine wpAnyH_take (i:=7) (v:=?_) rfl (by kernel_rfl) (by kernel_rfl) (by kernel_rfl) (fun _ _ _ h=>h) (Or.inl ⟨by rfl,?_⟩) (by assumption) ?_
    rotate_left
    · (intro w hSw;go_simp;try with_reducible rfl)
    simp only [Act.put,List.setIfInBounds_toArray,List.set_cons_zero,List.set_cons_succ];refine wpAnyH_done (by kernel_rfl) ?_ _;clear hHeld hS hS0;simp only [List.getElem_toArray,List.getElem_cons_zero,List.getElem_cons_succ,List.set_cons_zero,List.set_cons_succ,List.setIfInBounds_toArray];obtain ⟨Y,hY⟩:∃Y,X14 ++ X15 ++ X16=Y:=⟨_,rfl⟩;have hYs:Y.size<=4194304:=(by rw [←hY,cat_size,cat_size];omega);have HY:=Lib.hid (show Y.data.toList=_ from by rw [←hY,cat,cat,HX14.out,HX15.out,HX16.out]);rw [hY];clear hY
    go_wp2_with fail;refine (framedC (⟨#[40]⟩) v16 (by decide)).mono ?_;rintro e v17 ⟨X17,rfl,hx17,hz17,d17⟩;have HX17:=Lib.hid hx17;clear hx17;have s17:X17.size<=16:=hz17;clear hz17;have b17:=d16.trans (d17.mono d16.size)
    go_wp2_with fail;refine (framedC (⟨#[116,121,112,101]⟩) v17 (by decide)).mono ?_;rintro e v18 ⟨X18,rfl,hx18,hz18,d18⟩;have HX18:=Lib.hid hx18;clear hx18;have s18:X18.size<=19:=hz18;clear hz18;have b18:=b17.trans (d18.mono b17.size)
    go_wp2_with fail;refine (framedC (⟨#[41]⟩) v18 (by decide)).mono ?_;rintro e v19 ⟨X19,rfl,hx19,hz19,d19⟩;have HX19:=Lib.hid hx19;clear hx19;have s19:X19.size<=16:=hz19;clear hz19;have b19:=b18.trans (d19.mono b18.size)
    go_wp2_with fail
    go_ret;refine ⟨_,rfl,?_,bb.trans (b19.mono bb.size)⟩;rw [cat,cat,cat,HX17.out,HX18.out,HX19.out];rw [HY.out];rw [raw,rawN,if_neg (by decide),if_pos rfl];simp only [words,List.append_assoc,List.append_nil,List.nil_append]
    try rfl
  · have k1':(k == 1)=false:=(by rw [beq_eq_false_iff_ne];exact hk1);have k2':(k == 2)=false:=(by rw [beq_eq_false_iff_ne];exact hk2);have HRAW:=Lib.hid (show raw k ex t ks=words [⟨#[40]⟩,⟨#[116,121,112,101]⟩] ++ ((words [⟨#[100,105,114,101,99,116,111,114,121]⟩] ++ rawK ks) ++ words [⟨#[41]⟩]) by rw [raw,rawN,if_neg hk1,if_neg hk2])
    go_enter Tryz.func178,Tryz.ntmps178
    go_wp2_with fail;obtain ⟨w1,hw1⟩:∃W,w.alloc (.cells #[.int .i64 k,.bool ex,.string t,.slice ao nk cap] 26)=W:=⟨_,rfl⟩;rw [hw1];obtain ⟨bb,x1⟩:=alloc_fact hw1;have XB:=Lib.hid x1;clear hw1 x1;have HP:=Lib.hid (show ∀W,Below w1.heap.size w1 W->Bx W w.heap.size #[.int .i64 k,.bool ex,.string t,.slice ao nk cap] 26 from fun W hb=>XB.out.below hb);have c0:w1.cell? ⟨w.heap.size,0,none⟩=some (.int .i64 k):=XB.out.cell 0;have c1:w1.cell? ⟨w.heap.size,1,none⟩=some (.bool ex):=XB.out.cell 1;refine (framedC (⟨#[100,105,114,101,99,116,111,114,121]⟩) w1 (by decide)).mono ?_;rintro e v20 ⟨X20,rfl,hx20,hz20,d20⟩;have HX20:=Lib.hid hx20;clear hx20;have s20:X20.size<=24:=hz20;clear hz20;clear c0 c1;have hlen:=rawK_length ks;have HLEN:=Lib.hid (show (rawK ks).length<=419430400 by have:=HB.out;omega);clear hlen
    go_wp2_with fail
    go_loopw [3,4,5] (fun s i _ wr=>∃ (j:Nat) (I:ByteArray),j<=nk/\i = .int .i64 j/\s = .string I/\Below w1.heap.size w1 wr/\Hid (words [⟨#[100,105,114,101,99,116,111,114,121]⟩] ++ rawK ks=I.data.toList ++ rawK (ks.drop j))) (fun _ i _ _=>nk - (intOf i).toNat)
    case atStart=>exact ⟨0,X20,Nat.zero_le _,rfl,rfl,d20,Lib.hid (by rw [Kids.drop_zero,HX20.out];simp only [words,List.append_nil])⟩
    case round =>
     obtain ⟨j,I,hj,rfl,rfl,br,HI⟩:=hrel;have e0:(0:Int)<=(j:Int):=Int.natCast_nonneg _;have hIs:I.size<=419431000:=(by have h:=congrArg List.length HI.out;rw [List.length_append,List.length_append,size_data,show (words [⟨#[100,105,114,101,99,116,111,114,121]⟩]).length=24 by decide] at h;have:=HLEN.out;omega);have n3:wr.cell? ⟨w.heap.size,3,none⟩=some (.slice ao nk cap):=(HP.out wr br).cell 3;by_cases hlt:j < nk
     · obtain ⟨ao',cap',hv,hcl,hcm,hel⟩:=HK.out;injection hv with hv1 hv2 hv3;subst hv1;subst hv3;clear hv2 hcl hcm;rcases hel with rfl | ⟨b,off,rfl,hel⟩
       · exfalso;have:=HNK.out;simp [Tr.Kids.len] at this;omega
       have helr:=(hel.below bb).below br;obtain ⟨nm,kd,ex2,tx,sub,r,ao2,cap2,hd0,hd1',hSb,g0,g1,g2,g3,g4,hsub,hbk⟩:=helr.at' (j:=j) (by rw [HNK.out];exact hlt);have HRK:=Lib.hid (show rawK (ks.drop j)=words [⟨#[101,110,116,114,121]⟩,⟨#[40]⟩,⟨#[110,97,109,101]⟩,nm,⟨#[110,111,100,101]⟩] ++ (raw kd ex2 tx sub ++ (words [⟨#[41]⟩] ++ rawK (ks.drop (j+1)))) by rw [hd0,hd1'];rfl);have HEL:=Lib.hid helr;have hbb:=HB.out;have hbn:=HN.out;have hnm4:nm.size<=2097152:=(by omega);have htx4:tx.size<=2097152:=(by omega);have HSB:=Lib.hid (show sub.bulk < N/\sub.bulk<=2097152 by omega);have HSUB:=Lib.hid hsub;have j1:(j:Int) < (nk:Int):=(by omega);have HCELL:=Lib.hid (show ∀W,Below wr.heap.size wr W->W.cell? ⟨b,off+j*5,none⟩=some (.string nm) from fun W hb=>(hb.cell (World.block_lt_of_cell? wr _ g0)).trans g0);have HSS:=Lib.hid (show ∀b,S b->b < wr.heap.size from fun q hq=>Nat.lt_of_lt_of_le (HS.out q hq) (Nat.le_trans bb.size br.size));have hrl:=rawN_length kd ex2 tx (rawK sub);have hrl2:=rawK_length sub;have HRL:=Lib.hid (show (raw kd ex2 tx sub).length<=429430400 from by unfold raw;omega);clear hel helr hd0 hd1' hsub hbk hbb hbn hSb hrl hrl2
       go_wp2_with fail;refine (ih kd ex2 tx sub (.slice ao2 sub.len cap2) S wr HSB.out.1 HSB.out.2 htx4 HSUB.out HSS.out).mono ?_;clear g0 g1 g2 g3 g4 n3;rintro e wk ⟨Y,rfl,hY,bk⟩;have HY:=Lib.hid hY;have hYs:Y.size<=429430400:=(by rw [←size_data,hY];exact HRL.out);have brk:=br.trans (bk.mono br.size);clear hY;have hS:∀W',Below wk.heap.size wk W'->W'.cell? ⟨w.heap.size,3,none⟩=some (.slice (some ⟨b,off,none⟩) nk cap)/\W'.cell? ⟨b,off+j*5,none⟩=some (.string nm):=fun W' hb=>⟨(HP.out W' (brk.trans (hb.mono brk.size))).cell 3,HCELL.out W' (bk.trans (hb.mono bk.size))⟩
       have hS0:=hS wk.drew (Below.refl _ wk).drew
       go_wp2_with fail;refine wp_region_held_drew (S:=fun W'=>W'.cell? ⟨w.heap.size,3,none⟩=some (.slice (some ⟨b,off,none⟩) nk cap)/\W'.cell? ⟨b,off+j*5,none⟩=some (.string nm)) (by kernel_rfl) hS0 (fun hHeld=>?_);refine wpAnyH_take (i:=0) (v:=?_) rfl (by kernel_rfl) (by kernel_rfl) (by kernel_rfl) (fun _ _ _ h=>h) (Or.inl ⟨by rfl,?_⟩) (by assumption) ?_
       rotate_left
       · (intro w hSw;go_simp;try with_reducible rfl)
       simp only [Act.put,List.setIfInBounds_toArray,List.set_cons_zero,List.set_cons_succ];refine wpAnyH_take (i:=6) (v:=?_) rfl (by kernel_rfl) (by kernel_rfl) (by kernel_rfl) (fun _ _ _ h=>h) (Or.inl ⟨by rfl,?_⟩) (by assumption) ?_
       rotate_left
       · (intro w hSw;go_simp;try with_reducible rfl)
       simp only [Act.put,List.setIfInBounds_toArray,List.set_cons_zero,List.set_cons_succ];refine wpAnyH_take (i:=7) (v:=?_) rfl (by kernel_rfl) (by kernel_rfl) (by kernel_rfl) (fun _ _ _ h=>h) (Or.inl ⟨by rfl,?_⟩) (by assumption) ?_
       rotate_left
       · (intro w hSw;obtain ⟨hs1,hs2⟩:=hSw;go_simp;try with_reducible rfl)
       simp only [Act.put,List.setIfInBounds_toArray,List.set_cons_zero,List.set_cons_succ];refine wpAnyH_take (i:=8) (v:=?_) rfl (by kernel_rfl) (by kernel_rfl) (by kernel_rfl) (fun _ _ _ h=>h) (Or.inl ⟨by rfl,?_⟩) (by assumption) ?_
       rotate_left
       · (intro w hSw;go_simp;try with_reducible rfl)
       simp only [Act.put,List.setIfInBounds_toArray,List.set_cons_zero,List.set_cons_succ];refine wpAnyH_take (i:=9) (v:=?_) rfl (by kernel_rfl) (by kernel_rfl) (by kernel_rfl) (fun _ _ _ h=>h) (Or.inl ⟨by rfl,?_⟩) (by assumption) ?_
       rotate_left
       · (intro w hSw;go_simp;try with_reducible rfl)
       simp only [Act.put,List.setIfInBounds_toArray,List.set_cons_zero,List.set_cons_succ];refine wpAnyH_take (i:=10) (v:=?_) rfl (by kernel_rfl) (by kernel_rfl) (by kernel_rfl) (fun _ _ _ h=>h) (Or.inl ⟨by rfl,?_⟩) (by assumption) ?_
       rotate_left
       · (intro w hSw;go_simp;try with_reducible rfl)
       simp only [Act.put,List.setIfInBounds_toArray,List.set_cons_zero,List.set_cons_succ];refine wpAnyH_take (i:=11) (v:=?_) rfl (by kernel_rfl) (by kernel_rfl) (by kernel_rfl) (fun _ _ _ h=>h) (Or.inl ⟨by rfl,?_⟩) (by assumption) ?_
       rotate_left
       · (intro w hSw;obtain ⟨hs1,hs2⟩:=hSw;go_simp;try with_reducible rfl)
       simp only [Act.put,List.setIfInBounds_toArray,List.set_cons_zero,List.set_cons_succ];refine wpAnyH_take (i:=16) (v:=?_) rfl (by kernel_rfl) (by kernel_rfl) (by kernel_rfl) (fun _ _ _ h=>h) (Or.inl ⟨by rfl,?_⟩) (by assumption) ?_
       rotate_left
       · (intro w hSw;go_simp;try with_reducible rfl)
       simp only [Act.put,List.setIfInBounds_toArray,List.set_cons_zero,List.set_cons_succ];refine wpAnyH_ready (rs:=[1]) (by kernel_rfl) (by simp) ?_;refine (AllReadyH.cons rfl (fun K hK=>?_) AllReadyH.nil)
       go_simp;refine (framedC (⟨#[101,110,116,114,121]⟩) wk.drew (by decide)).mono ?_;rintro e v21 ⟨X21,rfl,hx21,hz21,e21⟩;have d21:Below wk.heap.size wk v21:=Copy.below_undrew e21;have HX21:=Lib.hid hx21;have s21:X21.size<=20:=hz21;refine hK.out _ _ (hS v21 d21) (fun hHeld=>?_);clear hK K hx21 hz21 e21;refine wpAnyH_ready (rs:=[2]) (by kernel_rfl) (by simp) ?_;refine (AllReadyH.cons rfl (fun K hK=>?_) AllReadyH.nil)
       go_simp;refine (framedC (⟨#[40]⟩) v21 (by decide)).mono ?_;rintro e v22 ⟨X22,rfl,hx22,hz22,e22⟩;have d22:Below wk.heap.size wk v22:=d21.trans (e22.mono d21.size);have HX22:=Lib.hid hx22;have s22:X22.size<=16:=hz22;refine hK.out _ _ (hS v22 d22) (fun hHeld=>?_);clear hK K hx22 hz22 e22;refine wpAnyH_take (i:=3) (v:=?_) rfl (by kernel_rfl) (by kernel_rfl) (by kernel_rfl) (fun _ _ _ h=>h) (Or.inl ⟨by rfl,?_⟩) (by assumption) ?_
       rotate_left
       · (intro w hSw;go_simp;rw [if_neg (by omega)];try with_reducible rfl)
       simp only [Act.put,List.setIfInBounds_toArray,List.set_cons_zero,List.set_cons_succ];refine wpAnyH_ready (rs:=[4]) (by kernel_rfl) (by simp) ?_;refine (AllReadyH.cons rfl (fun K hK=>?_) AllReadyH.nil)
       go_simp;refine (framedC (⟨#[110,97,109,101]⟩) v22 (by decide)).mono ?_;rintro e v23 ⟨X23,rfl,hx23,hz23,e23⟩;have d23:Below wk.heap.size wk v23:=d22.trans (e23.mono d22.size);have HX23:=Lib.hid hx23;have s23:X23.size<=19:=hz23;refine hK.out _ _ (hS v23 d23) (fun hHeld=>?_);clear hK K hx23 hz23 e23;refine wpAnyH_take (i:=5) (v:=?_) rfl (by kernel_rfl) (by kernel_rfl) (by kernel_rfl) (fun _ _ _ h=>h) (Or.inl ⟨by rfl,?_⟩) (by assumption) ?_
       rotate_left
       · (intro w hSw;go_simp;rw [if_neg (by omega)];try with_reducible rfl)
       simp only [Act.put,List.setIfInBounds_toArray,List.set_cons_zero,List.set_cons_succ];refine wpAnyH_ready (rs:=[12]) (by kernel_rfl) (by simp) ?_;refine (AllReadyH.cons rfl (fun K hK=>?_) AllReadyH.nil)
       go_simp;refine (framedC (nm) v23 (hnm4)).mono ?_;rintro e v24 ⟨X24,rfl,hx24,hz24,e24⟩;have d24:Below wk.heap.size wk v24:=d23.trans (e24.mono d23.size);have HX24:=Lib.hid hx24;have s24:X24.size<=2097167:=(by omega);refine hK.out _ _ (hS v24 d24) (fun hHeld=>?_);clear hK K hx24 hz24 e24;refine wpAnyH_take (i:=13) (v:=?_) rfl (by kernel_rfl) (by kernel_rfl) (by kernel_rfl) (fun _ _ _ h=>h) (Or.inl ⟨by rfl,?_⟩) (by assumption) ?_
       rotate_left
       · (intro w hSw;go_simp;rw [if_neg (by omega)];try with_reducible rfl)
       simp only [Act.put,List.setIfInBounds_toArray,List.set_cons_zero,List.set_cons_succ];refine wpAnyH_ready (rs:=[14]) (by kernel_rfl) (by simp) ?_;refine (AllReadyH.cons rfl (fun K hK=>?_) AllReadyH.nil)
       go_simp;refine (framedC (⟨#[110,111,100,101]⟩) v24 (by decide)).mono ?_;rintro e v25 ⟨X25,rfl,hx25,hz25,e25⟩;have d25:Below wk.heap.size wk v25:=d24.trans (e25.mono d24.size);have HX25:=Lib.hid hx25;have s25:X25.size<=19:=hz25;refine hK.out _ _ (hS v25 d25) (fun hHeld=>?_);clear hK K hx25 hz25 e25;refine wpAnyH_take (i:=15) (v:=?_) rfl (by kernel_rfl) (by kernel_rfl) (by kernel_rfl) (fun _ _ _ h=>h) (Or.inl ⟨by rfl,?_⟩) (by assumption) ?_
       rotate_left
       · (intro w hSw;go_simp;rw [if_neg (by omega)];try with_reducible rfl)
       simp only [Act.put,List.setIfInBounds_toArray,List.set_cons_zero,List.set_cons_succ];refine wpAnyH_take (i:=17) (v:=?_) rfl (by kernel_rfl) (by kernel_rfl) (by kernel_rfl) (fun _ _ _ h=>h) (Or.inl ⟨by rfl,?_⟩) (by assumption) ?_
       rotate_left
       · (intro w hSw;go_simp;rw [if_neg (by omega)];try with_reducible rfl)
       simp only [Act.put,List.setIfInBounds_toArray,List.set_cons_zero,List.set_cons_succ];refine wpAnyH_ready (rs:=[18]) (by kernel_rfl) (by simp) ?_;refine (AllReadyH.cons rfl (fun K hK=>?_) AllReadyH.nil)
       go_simp;refine (framedC (⟨#[41]⟩) v25 (by decide)).mono ?_;rintro e v26 ⟨X26,rfl,hx26,hz26,e26⟩;have d26:Below wk.heap.size wk v26:=d25.trans (e26.mono d25.size);have HX26:=Lib.hid hx26;have s26:X26.size<=16:=hz26;refine hK.out _ _ (hS v26 d26) (fun hHeld=>?_);clear hK K hx26 hz26 e26;refine wpAnyH_take (i:=19) (v:=?_) rfl (by kernel_rfl) (by kernel_rfl) (by kernel_rfl) (fun _ _ _ h=>h) (Or.inl ⟨by rfl,?_⟩) (by assumption) ?_
       rotate_left
       · (intro w hSw;go_simp;rw [if_neg (by omega)];try with_reducible rfl)
       simp only [Act.put,List.setIfInBounds_toArray,List.set_cons_zero,List.set_cons_succ];refine wpAnyH_take (i:=20) (v:=?_) rfl (by kernel_rfl) (by kernel_rfl) (by kernel_rfl) (fun _ _ _ h=>h) (Or.inl ⟨by rfl,?_⟩) (by assumption) ?_
       rotate_left
       · (intro w hSw;go_simp;rw [if_neg (by omega)];try with_reducible rfl)
       simp only [Act.put,List.setIfInBounds_toArray,List.set_cons_zero,List.set_cons_succ];refine wpAnyH_take (i:=21) (v:=?_) rfl (by kernel_rfl) (by kernel_rfl) (by kernel_rfl) (fun _ _ _ h=>h) (Or.inl ⟨by rfl,?_⟩) (by assumption) ?_
       rotate_left
       · (intro w hSw;go_simp;try with_reducible rfl)
       simp only [Act.put,List.setIfInBounds_toArray,List.set_cons_zero,List.set_cons_succ];refine wpAnyH_done (by kernel_rfl) ?_ _;clear hHeld hS hS0;simp only [List.getElem_toArray,List.getElem_cons_zero,List.getElem_cons_succ,List.set_cons_zero,List.set_cons_succ,List.setIfInBounds_toArray];have HNEW:=Lib.hid (show words [⟨#[100,105,114,101,99,116,111,114,121]⟩] ++ rawK ks=(I ++ (X21 ++ X22 ++ X23 ++ X24 ++ X25 ++ Y ++ X26)).data.toList ++ rawK (ks.drop (j+1)) by
        rw [HI.out,HRK.out];simp only [cat,HX21.out,HX22.out,HX23.out,HX24.out,HX25.out,HX26.out,HY.out,words,List.append_assoc,List.append_nil,List.nil_append])
       go_wp2_with fail
       go_roundw
       case rel=>exact ⟨j+1,_,by omega,by go_num,rfl,brk.trans (d26.mono brk.size),HNEW⟩
       case measure=>simp [intOf];omega
     · obtain rfl:j=nk:=(by omega);have HI2:=Lib.hid (show I.data.toList=words [⟨#[100,105,114,101,99,116,111,114,121]⟩] ++ rawK ks by rw [HI.out,Kids.drop_of_le ks j (by rw [HNK.out];omega)];simp only [rawK,List.append_nil]);clear e0 hlt hj
       go_wp2_with fail;refine (framedC (⟨#[40]⟩) wr (by decide)).mono ?_;rintro e v27 ⟨X27,rfl,hx27,hz27,d27⟩;have HX27:=Lib.hid hx27;clear hx27;have s27:X27.size<=16:=hz27;clear hz27;have b27:=br.trans (d27.mono br.size)
       go_wp2_with fail;refine (framedC (⟨#[116,121,112,101]⟩) v27 (by decide)).mono ?_;rintro e v28 ⟨X28,rfl,hx28,hz28,d28⟩;have HX28:=Lib.hid hx28;clear hx28;have s28:X28.size<=19:=hz28;clear hz28;have b28:=b27.trans (d28.mono b27.size)
       go_wp2_with fail;refine (framedC (⟨#[41]⟩) v28 (by decide)).mono ?_;rintro e v29 ⟨X29,rfl,hx29,hz29,d29⟩;have HX29:=Lib.hid hx29;clear hx29;have s29:X29.size<=16:=hz29;clear hz29;have b29:=b28.trans (d29.mono b28.size)
       go_wp2_with fail
       go_ret;refine ⟨_,rfl,?_,bb.trans (b29.mono bb.size)⟩;rw [cat,cat,cat,HX27.out,HX28.out,HX29.out];rw [HI2.out,HRAW.out];simp only [words,List.append_assoc,List.append_nil,List.nil_append]
       try rfl
end Go.Proofs.YtmmmghpimdfleaaGreatDoor.DRaw

namespace Go.Proofs.YtmmmghpimdfleaaGreatDoor.DTr
open Go.RowKit Mem Tr Wire TreeW TreeN Name TreeC
theorem magic24:framedL Nar.magicW=24:=by decide
/-- The walk of a whole tree, its rows left out. -/
theorem visit0 (B:Nat) (S:Nat->Prop) (k:Int) (ex:Bool) (t:ByteArray) (ks:Tr.Kids) (kv:Value) (w:World) (hb:ks.bulk<=4194304) (ht:t.size<=4194304) (hk:KidsAt S w kv ks) (hS:∀b,S b->b < w.heap.size) :
 Calls Tryz.prog 207 #[.agg #[.slice none 0 0,.int .i64 24,.int .i64 0,.string ⟨#[]⟩],.string ⟨#[]⟩,.agg #[.int .i64 k,.bool ex,.string t,kv],.int .i64 1] w
  fun e w'=>Below w.heap.size w w'/\∃ (a:Option Addr) (n c:Nat) (m:Int) (q:ByteArray),e = .returned (.agg #[.slice a n c,.int .i64 m,.int .i64 (walkR k ex t ks).2.1,.string q]):=by
 have H:=visitN w.heap.size S (ks.bulk+1) k ex t ks kv ⟨#[]⟩ ⟨#[]⟩ 1 24 0 (.slice none 0 0) [] w (Nat.lt_succ_self _) hb ht hk (fun b hb=>⟨hS b hb,by simp [Value.ownBlock]⟩) (by simp [ByteArray.size]) (by omega) (by omega) (by omega) (by omega) (World.ownsRow_nil _ _ _ _) (Nat.le_refl _);refine H.mono ?_;rintro e w' ⟨hk',hp⟩;refine ⟨hk'.below (Nat.le_refl _) (fun i _ h=>by simp [Value.ownBlock] at h),?_⟩;have hw:(walkR k ex t ks).2.1=match nodeR ⟨#[]⟩ 1 k ex t ks 24 with
  | .ok _=>0
  | .bad _ c=>c:=by
  unfold walkR;rw [show framedL [⟨#[100,101,112,111,116,45,97,114,99,104,105,118,101,45,49]⟩]=24 from magic24];cases nodeR ⟨#[]⟩ 1 k ex t ks 24 <;> rfl
 rw [hw];clear hw;cases hR:nodeR ⟨#[]⟩ 1 k ex t ks 24 with
 | ok m =>
  rw [hR] at hp;obtain ⟨rv',q,nr,xs,rfl,_,_,hown,_⟩:=hp;obtain ⟨a,c,rfl⟩:=Tab.own_len hown;exact ⟨a,nr,c,m,q,rfl⟩
 | bad p c =>
  rw [hR] at hp;obtain ⟨a,n,c',m,q,rfl,_⟩:=hp;exact ⟨a,n,c',m,q,rfl⟩
set_option maxHeartbeats 8000000 in
set_option maxRecDepth 20000 in
theorem lookC (S:Nat->Prop) (k:Int) (ex:Bool) (t:ByteArray) (ks:Tr.Kids) (kv:Value) (w:World) (hb:ks.bulk<=4194304) (ht:t.size<=4194304) (hk:KidsAt S w kv ks) (hS:∀b,S b->b < w.heap.size) :
 Calls Tryz.prog 176 #[.agg #[.int .i64 k,.bool ex,.string t,kv]] w fun e w'=>Below w.heap.size w w'/\∃ (a:Option Addr) (n c:Nat) (m:Int) (q:ByteArray),e = .returned (.agg #[.slice a n c,.int .i64 m,.int .i64 (walkR k ex t ks).2.1,.string q]):=by
 obtain ⟨ao,cap,rfl,_,_,_⟩:=id hk;obtain ⟨nk,hnk⟩:∃nk,ks.len=nk:=⟨_,rfl⟩;rw [hnk] at hk ⊢;have HK:=Lib.hid hk;obtain ⟨code,hcode⟩:∃code,(walkR k ex t ks).2.1=code:=⟨_,rfl⟩;rw [hcode];have HV:=Lib.hid (show ∀W,Below w.heap.size w W->Calls Tryz.prog 207 #[.agg #[.slice none 0 0,.int .i64 24,.int .i64 0,.string ⟨#[]⟩],.string ⟨#[]⟩,.agg #[.int .i64 k,.bool ex,.string t,.slice ao nk cap],.int .i64 1] W
  fun e w'=>Below W.heap.size W w'/\∃ (a:Option Addr) (n c:Nat) (m:Int) (q:ByteArray),e = .returned (.agg #[.slice a n c,.int .i64 m,.int .i64 code,.string q]) from fun W h=>by
  rw [←hcode];exact visit0 0 S k ex t ks (.slice ao nk cap) W hb ht (HK.out.below h) (fun b hb=>Nat.lt_of_lt_of_le (hS b hb) h.size))
 have HM:=Lib.hid (show ∀W,Calls Tryz.prog 208 #[] W fun e w'=>e = .returned (.int .i64 24)/\Below W.heap.size W w' from fun W=>by
  have:=magicC W;rw [magic24] at this;exact this)
 clear hcode hk hnk hb hS
 go_enter Tryz.func176,Tryz.ntmps176
 go_wp2_with fail;obtain ⟨w1,hw1⟩:∃W,(w.alloc (.cells #[.int .i64 k,.bool ex,.string t,.slice ao nk cap] 26)).alloc (.cells #[.slice none 0 0,.int .i64 0,.int .i64 0,.string ⟨#[]⟩] 232)=W:=⟨_,rfl⟩;rw [hw1];obtain ⟨b1,x1,x2⟩:=alloc_fact2 hw1;have XN:=Lib.hid x1;have XZ:=Lib.hid x2;have z1:w.heap.size+1 < w1.heap.size:=x2.lt;clear hw1 x1 x2;have hS:∀W',Below w1.heap.size w1 W'->W'.rangeAt w.heap.size 0 [.int .i64 k,.bool ex,.string t,.slice ao nk cap]:=fun W' hb=>by have:=(XN.out.below hb).range;simpa using this
 have hS0:=hS w1.drew (Below.refl _ w1).drew;refine (fun (h1:Go.RowKit.Hid ?P1)=>?main1) ?tail1
 case main1 =>
  refine wp_region_held_drew (S:=fun W'=>W'.rangeAt w.heap.size 0 [.int .i64 k,.bool ex,.string t,.slice ao nk cap]) (by kernel_rfl) hS0 (fun hHeld=>?_);refine' wpAnyH_take (i:=2) (v:=_) rfl (by kernel_rfl) (by kernel_rfl) (by kernel_rfl) (fun _ _ _ h=>h) (yieldsIf_load_mid (by rfl) 26 _ (by rfl) (w.heap.size) 0 (by rfl) ([.int .i64 k,.bool ex,.string t,.slice ao nk cap]) _ (fun w h=>h) Tryz.underlying26 rfl (by kernel_rfl)) (by assumption) ?_;simp only [Act.put,List.setIfInBounds_toArray,List.set_cons_zero,List.set_cons_succ];refine wpAnyH_ready (rs:=[0,4]) (by kernel_rfl) (by simp) ?_;refine (AllReadyH.cons rfl (fun K hK=>?armA) (AllReadyH.cons rfl (fun K hK=>?armB) AllReadyH.nil))
  case armA =>
   go_simp;refine (HM.out w1.drew).mono ?_;rintro e v1 ⟨rfl,e1⟩;have bv1:Below w1.heap.size w1 v1:=Copy.below_undrew e1;refine hK.out _ _ (hS v1 bv1) (fun hHeld=>?_);clear hK K e1;refine wpAnyH_take (i:=1) (v:=?_) rfl (by kernel_rfl) (by kernel_rfl) (by kernel_rfl) (fun _ _ _ h=>h) (Or.inl ⟨by rfl,?_⟩) (by assumption) ?_
   rotate_left
   · (intro w hSw;go_simp;try with_reducible rfl)
   simp only [Act.put,List.setIfInBounds_toArray,List.set_cons_zero,List.set_cons_succ];refine wpAnyH_ready (rs:=[3,4]) (by kernel_rfl) (by simp) ?_;refine (AllReadyH.cons rfl (fun K hK=>?armC) (AllReadyH.cons rfl (fun K hK=>?armD) AllReadyH.nil))
   case armC =>
    go_simp;refine (HV.out v1 (b1.trans ((bv1).mono b1.size))).mono ?_;rintro e v2 ⟨e1,a,n,c,m,q,rfl⟩;have bv2:Below w1.heap.size w1 v2:=bv1.trans (e1.mono bv1.size);refine hK.out _ _ (hS v2 bv2) (fun hHeld=>?_);clear hK K;clear e1;refine wpAnyH_ready (rs:=[4]) (by kernel_rfl) (by simp) ?_;refine (AllReadyH.cons rfl (fun K hK=>?_) AllReadyH.nil)
    go_simp
    change K _ ((v2).alloc (.cells #[.slice none 0 0,.int .i64 0,.int .i64 0,.string ⟨#[]⟩] 232))
    obtain ⟨v3,hA⟩:∃W,((v2).alloc (.cells #[.slice none 0 0,.int .i64 0,.int .i64 0,.string ⟨#[]⟩] 232))=W:=⟨_,rfl⟩;rw [hA];have bv3:Below w1.heap.size w1 v3:=(by rw [←hA];exact (bv2).alloc (by first | exact Nat.le_refl _ | exact (bv2).size) _);have xA:Bx v3 (v2).heap.size #[.slice none 0 0,.int .i64 0,.int .i64 0,.string ⟨#[]⟩] 232:=(by rw [←hA];exact Bx.new (v2) _ _);obtain ⟨nb,hnb⟩:∃nb,(v2).heap.size=nb:=⟨_,rfl⟩;have lnb:w1.heap.size<=nb:=(by rw [←hnb];exact (bv2).size);rw [hnb] at xA;refine hK.out _ _ (hS v3 bv3) (fun hHeld=>?_)
    try rw [hnb]
    clear hK K hA hnb;have xB:Bx v3 nb #[.slice none 0 0,.int .i64 0,.int .i64 0,.string ⟨#[]⟩] 232:=xA;refine wpAnyH_ready (rs:=[5]) (by kernel_rfl) (by simp) ?_;refine AllReadyH.cons rfl (fun K hK=>?_) AllReadyH.nil;have c0:v3.cell? ⟨nb,0,none⟩=some (.slice none 0 0):=xB.cell 0;have c1:v3.cell? ⟨nb,1,none⟩=some (.int .i64 0):=xB.cell 1;have c2:v3.cell? ⟨nb,2,none⟩=some (.int .i64 0):=xB.cell 2;have c3:v3.cell? ⟨nb,3,none⟩=some (.string ⟨#[]⟩):=xB.cell 3;have f0:=xB.frozen 0;have f1:=xB.frozen 1;have f2:=xB.frozen 2;have f3:=xB.frozen 3
    go_simp;have bS:Below w1.heap.size w1 ((((v3.setCell ⟨nb,0,none⟩ (.slice a n c)).setCell ⟨nb,1,none⟩ (.int .i64 m)).setCell ⟨nb,2,none⟩ (.int .i64 code)).setCell ⟨nb,3,none⟩ (.string q)):=(((bv3.setCell (p:=⟨nb,0,none⟩) lnb _).setCell (p:=⟨nb,1,none⟩) lnb _).setCell (p:=⟨nb,2,none⟩) lnb _).setCell (p:=⟨nb,3,none⟩) lnb _;have HF:=Lib.hid (show Bx ((((v3.setCell ⟨nb,0,none⟩ (.slice a n c)).setCell ⟨nb,1,none⟩ (.int .i64 m)).setCell ⟨nb,2,none⟩ (.int .i64 code)).setCell ⟨nb,3,none⟩ (.string q)) nb #[.slice a n c,.int .i64 m,.int .i64 code,.string q] 232/\Below w1.heap.size w1 ((((v3.setCell ⟨nb,0,none⟩ (.slice a n c)).setCell ⟨nb,1,none⟩ (.int .i64 m)).setCell ⟨nb,2,none⟩ (.int .i64 code)).setCell ⟨nb,3,none⟩ (.string q))/\w1.heap.size<=nb from ⟨(((xB.set 0 (.slice a n c)).set 1 (.int .i64 m)).set 2 (.int .i64 code)).set 3 (.string q),bS,lnb⟩);refine hK.out _ _ (hS _ bS) (fun hHeld=>?_);clear hK K c0 c1 c2 c3 f0 f1 f2 f3 xB;refine wpAnyH_done (by kernel_rfl) ?_ _;clear hHeld
    try simp only [List.getElem_toArray,List.getElem_cons_zero,List.getElem_cons_succ,List.set_cons_zero,List.set_cons_succ,List.setIfInBounds_toArray]
    revert HF;generalize ((((v3.setCell ⟨nb,0,none⟩ (.slice a n c)).setCell ⟨nb,1,none⟩ (.int .i64 m)).setCell ⟨nb,2,none⟩ (.int .i64 code)).setCell ⟨nb,3,none⟩ (.string q))=yW;generalize nb=ynb;generalize a=ya;generalize n=yn;generalize c=yc;generalize m=ym;generalize q=yq;revert yW ynb ya yn yc ym yq;exact h1.out
   case armD =>
    go_simp
    change K _ ((v1).alloc (.cells #[.slice none 0 0,.int .i64 0,.int .i64 0,.string ⟨#[]⟩] 232))
    obtain ⟨v2,hA⟩:∃W,((v1).alloc (.cells #[.slice none 0 0,.int .i64 0,.int .i64 0,.string ⟨#[]⟩] 232))=W:=⟨_,rfl⟩;rw [hA];have bv2:Below w1.heap.size w1 v2:=(by rw [←hA];exact (bv1).alloc (by first | exact Nat.le_refl _ | exact (bv1).size) _);have xA:Bx v2 (v1).heap.size #[.slice none 0 0,.int .i64 0,.int .i64 0,.string ⟨#[]⟩] 232:=(by rw [←hA];exact Bx.new (v1) _ _);obtain ⟨nb,hnb⟩:∃nb,(v1).heap.size=nb:=⟨_,rfl⟩;have lnb:w1.heap.size<=nb:=(by rw [←hnb];exact (bv1).size);rw [hnb] at xA;refine hK.out _ _ (hS v2 bv2) (fun hHeld=>?_)
    try rw [hnb]
    clear hK K hA hnb;refine wpAnyH_ready (rs:=[3]) (by kernel_rfl) (by simp) ?_;refine (AllReadyH.cons rfl (fun K hK=>?_) AllReadyH.nil)
    go_simp;refine (HV.out v2 (b1.trans ((bv2).mono b1.size))).mono ?_;rintro e v3 ⟨e1,a,n,c,m,q,rfl⟩;have bv3:Below w1.heap.size w1 v3:=bv2.trans (e1.mono bv2.size);refine hK.out _ _ (hS v3 bv3) (fun hHeld=>?_);clear hK K;have xA3:=xA.below e1;clear e1;have xB:Bx v3 nb #[.slice none 0 0,.int .i64 0,.int .i64 0,.string ⟨#[]⟩] 232:=xA3;refine wpAnyH_ready (rs:=[5]) (by kernel_rfl) (by simp) ?_;refine AllReadyH.cons rfl (fun K hK=>?_) AllReadyH.nil;have c0:v3.cell? ⟨nb,0,none⟩=some (.slice none 0 0):=xB.cell 0;have c1:v3.cell? ⟨nb,1,none⟩=some (.int .i64 0):=xB.cell 1;have c2:v3.cell? ⟨nb,2,none⟩=some (.int .i64 0):=xB.cell 2;have c3:v3.cell? ⟨nb,3,none⟩=some (.string ⟨#[]⟩):=xB.cell 3;have f0:=xB.frozen 0;have f1:=xB.frozen 1;have f2:=xB.frozen 2;have f3:=xB.frozen 3
    go_simp;have bS:Below w1.heap.size w1 ((((v3.setCell ⟨nb,0,none⟩ (.slice a n c)).setCell ⟨nb,1,none⟩ (.int .i64 m)).setCell ⟨nb,2,none⟩ (.int .i64 code)).setCell ⟨nb,3,none⟩ (.string q)):=(((bv3.setCell (p:=⟨nb,0,none⟩) lnb _).setCell (p:=⟨nb,1,none⟩) lnb _).setCell (p:=⟨nb,2,none⟩) lnb _).setCell (p:=⟨nb,3,none⟩) lnb _;have HF:=Lib.hid (show Bx ((((v3.setCell ⟨nb,0,none⟩ (.slice a n c)).setCell ⟨nb,1,none⟩ (.int .i64 m)).setCell ⟨nb,2,none⟩ (.int .i64 code)).setCell ⟨nb,3,none⟩ (.string q)) nb #[.slice a n c,.int .i64 m,.int .i64 code,.string q] 232/\Below w1.heap.size w1 ((((v3.setCell ⟨nb,0,none⟩ (.slice a n c)).setCell ⟨nb,1,none⟩ (.int .i64 m)).setCell ⟨nb,2,none⟩ (.int .i64 code)).setCell ⟨nb,3,none⟩ (.string q))/\w1.heap.size<=nb from ⟨(((xB.set 0 (.slice a n c)).set 1 (.int .i64 m)).set 2 (.int .i64 code)).set 3 (.string q),bS,lnb⟩);refine hK.out _ _ (hS _ bS) (fun hHeld=>?_);clear hK K c0 c1 c2 c3 f0 f1 f2 f3 xB;refine wpAnyH_done (by kernel_rfl) ?_ _;clear hHeld
    try simp only [List.getElem_toArray,List.getElem_cons_zero,List.getElem_cons_succ,List.set_cons_zero,List.set_cons_succ,List.setIfInBounds_toArray]
    revert HF;generalize ((((v3.setCell ⟨nb,0,none⟩ (.slice a n c)).setCell ⟨nb,1,none⟩ (.int .i64 m)).setCell ⟨nb,2,none⟩ (.int .i64 code)).setCell ⟨nb,3,none⟩ (.string q))=yW;generalize nb=ynb;generalize a=ya;generalize n=yn;generalize c=yc;generalize m=ym;generalize q=yq;revert yW ynb ya yn yc ym yq;exact h1.out
  case armB =>
   go_simp
   change K _ ((w1).alloc (.cells #[.slice none 0 0,.int .i64 0,.int .i64 0,.string ⟨#[]⟩] 232)).drew
   obtain ⟨v1,hA⟩:∃W,((w1).alloc (.cells #[.slice none 0 0,.int .i64 0,.int .i64 0,.string ⟨#[]⟩] 232)).drew=W:=⟨_,rfl⟩;rw [hA];have bv1:Below w1.heap.size w1 v1:=(by rw [←hA];exact ((Below.refl w1.heap.size w1).alloc (by first | exact Nat.le_refl _ | exact (Below.refl w1.heap.size w1).size) _).drew);have xA:Bx v1 (w1).heap.size #[.slice none 0 0,.int .i64 0,.int .i64 0,.string ⟨#[]⟩] 232:=(by rw [←hA];exact (Bx.new (w1) _ _).dn ⟨1,rfl⟩);obtain ⟨nb,hnb⟩:∃nb,(w1).heap.size=nb:=⟨_,rfl⟩;have lnb:w1.heap.size<=nb:=(by rw [←hnb];exact (Below.refl w1.heap.size w1).size);rw [hnb] at xA;refine hK.out _ _ (hS v1 bv1) (fun hHeld=>?_)
   try rw [hnb]
   clear hK K hA hnb;refine wpAnyH_ready (rs:=[0]) (by kernel_rfl) (by simp) ?_;refine (AllReadyH.cons rfl (fun K hK=>?_) AllReadyH.nil)
   go_simp;refine (HM.out v1).mono ?_;rintro e v2 ⟨rfl,e1⟩;have bv2:Below w1.heap.size w1 v2:=bv1.trans (e1.mono bv1.size);refine hK.out _ _ (hS v2 bv2) (fun hHeld=>?_);clear hK K;have xA2:=xA.below e1;clear e1;refine wpAnyH_take (i:=1) (v:=?_) rfl (by kernel_rfl) (by kernel_rfl) (by kernel_rfl) (fun _ _ _ h=>h) (Or.inl ⟨by rfl,?_⟩) (by assumption) ?_
   rotate_left
   · (intro w hSw;go_simp;try with_reducible rfl)
   simp only [Act.put,List.setIfInBounds_toArray,List.set_cons_zero,List.set_cons_succ];refine wpAnyH_ready (rs:=[3]) (by kernel_rfl) (by simp) ?_;refine (AllReadyH.cons rfl (fun K hK=>?_) AllReadyH.nil)
   go_simp;refine (HV.out v2 (b1.trans ((bv2).mono b1.size))).mono ?_;rintro e v3 ⟨e1,a,n,c,m,q,rfl⟩;have bv3:Below w1.heap.size w1 v3:=bv2.trans (e1.mono bv2.size);refine hK.out _ _ (hS v3 bv3) (fun hHeld=>?_);clear hK K;have xA3:=xA2.below e1;clear e1;have xB:Bx v3 nb #[.slice none 0 0,.int .i64 0,.int .i64 0,.string ⟨#[]⟩] 232:=xA3;refine wpAnyH_ready (rs:=[5]) (by kernel_rfl) (by simp) ?_;refine AllReadyH.cons rfl (fun K hK=>?_) AllReadyH.nil;have c0:v3.cell? ⟨nb,0,none⟩=some (.slice none 0 0):=xB.cell 0;have c1:v3.cell? ⟨nb,1,none⟩=some (.int .i64 0):=xB.cell 1;have c2:v3.cell? ⟨nb,2,none⟩=some (.int .i64 0):=xB.cell 2;have c3:v3.cell? ⟨nb,3,none⟩=some (.string ⟨#[]⟩):=xB.cell 3;have f0:=xB.frozen 0;have f1:=xB.frozen 1;have f2:=xB.frozen 2;have f3:=xB.frozen 3
   go_simp;have bS:Below w1.heap.size w1 ((((v3.setCell ⟨nb,0,none⟩ (.slice a n c)).setCell ⟨nb,1,none⟩ (.int .i64 m)).setCell ⟨nb,2,none⟩ (.int .i64 code)).setCell ⟨nb,3,none⟩ (.string q)):=(((bv3.setCell (p:=⟨nb,0,none⟩) lnb _).setCell (p:=⟨nb,1,none⟩) lnb _).setCell (p:=⟨nb,2,none⟩) lnb _).setCell (p:=⟨nb,3,none⟩) lnb _;have HF:=Lib.hid (show Bx ((((v3.setCell ⟨nb,0,none⟩ (.slice a n c)).setCell ⟨nb,1,none⟩ (.int .i64 m)).setCell ⟨nb,2,none⟩ (.int .i64 code)).setCell ⟨nb,3,none⟩ (.string q)) nb #[.slice a n c,.int .i64 m,.int .i64 code,.string q] 232/\Below w1.heap.size w1 ((((v3.setCell ⟨nb,0,none⟩ (.slice a n c)).setCell ⟨nb,1,none⟩ (.int .i64 m)).setCell ⟨nb,2,none⟩ (.int .i64 code)).setCell ⟨nb,3,none⟩ (.string q))/\w1.heap.size<=nb from ⟨(((xB.set 0 (.slice a n c)).set 1 (.int .i64 m)).set 2 (.int .i64 code)).set 3 (.string q),bS,lnb⟩);refine hK.out _ _ (hS _ bS) (fun hHeld=>?_);clear hK K c0 c1 c2 c3 f0 f1 f2 f3 xB;refine wpAnyH_done (by kernel_rfl) ?_ _;clear hHeld
   try simp only [List.getElem_toArray,List.getElem_cons_zero,List.getElem_cons_succ,List.set_cons_zero,List.set_cons_succ,List.setIfInBounds_toArray]
   revert HF;generalize ((((v3.setCell ⟨nb,0,none⟩ (.slice a n c)).setCell ⟨nb,1,none⟩ (.int .i64 m)).setCell ⟨nb,2,none⟩ (.int .i64 code)).setCell ⟨nb,3,none⟩ (.string q))=yW;generalize nb=ynb;generalize a=ya;generalize n=yn;generalize c=yc;generalize m=ym;generalize q=yq;revert yW ynb ya yn yc ym yq;exact h1.out
 case tail1 =>
  refine Lib.hid ?_;intro w2 nb a n c m q HF;clear hS hS0;have xr:=XZ.out.below HF.out.2.1;have lz:=HF.out.2.2;have d0:=HF.out.1.cell 0;have d1:=HF.out.1.cell 1;have d2:=HF.out.1.cell 2;have d3:=HF.out.1.cell 3;have f3:=HF.out.1.frozen 3;have r0:=xr.cell 0;have r1:=xr.cell 1;have r2:=xr.cell 2;have r3:=xr.cell 3;have rf0:=xr.frozen 0;have rf1:=xr.frozen 1;have rf2:=xr.frozen 2;have rf3:=xr.frozen 3;have b2:Below w.heap.size w w2:=b1.trans (HF.out.2.1.mono b1.size);have hne:nb≠w.heap.size+1:=(by omega);by_cases hc:code=0
  · subst hc
    go_wp2_with fail;obtain ⟨WF,hWF⟩:∃X,(((((w2.setCell ⟨nb,3,none⟩ (.string ⟨#[]⟩)).setCell ⟨w.heap.size+1,0,none⟩ (.slice a n c)).setCell ⟨w.heap.size+1,1,none⟩ (.int .i64 m)).setCell ⟨w.heap.size+1,2,none⟩ (.int .i64 0)).setCell ⟨w.heap.size+1,3,none⟩ (.string ⟨#[]⟩))=X:=⟨_,rfl⟩;rw [hWF];have yf:Bx WF (w.heap.size+1) #[.slice a n c,.int .i64 m,.int .i64 0,.string ⟨#[]⟩] 232:=by
     have:=(((((xr.set_other (p:=⟨nb,3,none⟩) (.string ⟨#[]⟩) (fun h=>hne h.symm)).set 0 (.slice a n c)).set 1 (.int .i64 m)).set 2 (.int .i64 0)).set 3 (.string ⟨#[]⟩));rw [hWF] at this;exact this
    have kf:Below w.heap.size w WF:=(by rw [←hWF];exact (((((b2.setCell (p:=⟨nb,3,none⟩) (by show w.heap.size<=nb;omega) (.string ⟨#[]⟩)).setCell (p:=⟨w.heap.size+1,0,none⟩) (Nat.le_succ _) (.slice a n c)).setCell (p:=⟨w.heap.size+1,1,none⟩) (Nat.le_succ _) (.int .i64 m)).setCell (p:=⟨w.heap.size+1,2,none⟩) (Nat.le_succ _) (.int .i64 0)).setCell (p:=⟨w.heap.size+1,3,none⟩) (Nat.le_succ _) (.string ⟨#[]⟩)));clear hWF;have hlv:=run_loadVar_mid (P:=Tryz.prog) WF (w.heap.size+1) 0 232 [.slice a n c,.int .i64 m,.int .i64 0,.string ⟨#[]⟩] _ yf.range Tryz.underlying232 rfl (by kernel_rfl);refine bodyPost_ret (v:=.agg #[.slice a n c,.int .i64 m,.int .i64 0,.string ⟨#[]⟩]) (results_cell Tryz.results176 rfl hlv) rfl ?_;exact ⟨kf,a,n,c,m,⟨#[]⟩,rfl⟩
  · have t3:(code != 0)=true:=(by rw [bne_iff_ne];exact hc)
    go_wp2_with fail;obtain ⟨WF,hWF⟩:∃X,((((w2.setCell ⟨w.heap.size+1,0,none⟩ (.slice none 0 0)).setCell ⟨w.heap.size+1,1,none⟩ (.int .i64 0)).setCell ⟨w.heap.size+1,2,none⟩ (.int .i64 code)).setCell ⟨w.heap.size+1,3,none⟩ (.string q))=X:=⟨_,rfl⟩;rw [hWF];have yf:Bx WF (w.heap.size+1) #[.slice none 0 0,.int .i64 0,.int .i64 code,.string q] 232:=by
     have:=((((xr.set 0 (.slice none 0 0)).set 1 (.int .i64 0)).set 2 (.int .i64 code)).set 3 (.string q));rw [hWF] at this;exact this
    have kf:Below w.heap.size w WF:=(by rw [←hWF];exact ((((b2.setCell (p:=⟨w.heap.size+1,0,none⟩) (Nat.le_succ _) (.slice none 0 0)).setCell (p:=⟨w.heap.size+1,1,none⟩) (Nat.le_succ _) (.int .i64 0)).setCell (p:=⟨w.heap.size+1,2,none⟩) (Nat.le_succ _) (.int .i64 code)).setCell (p:=⟨w.heap.size+1,3,none⟩) (Nat.le_succ _) (.string q)));clear hWF;have hlv:=run_loadVar_mid (P:=Tryz.prog) WF (w.heap.size+1) 0 232 [.slice none 0 0,.int .i64 0,.int .i64 code,.string q] _ yf.range Tryz.underlying232 rfl (by kernel_rfl);refine bodyPost_ret (v:=.agg #[.slice none 0 0,.int .i64 0,.int .i64 code,.string q]) (results_cell Tryz.results176 rfl hlv) rfl ?_;exact ⟨kf,none,0,0,0,q,rfl⟩
end Go.Proofs.YtmmmghpimdfleaaGreatDoor.DTr

namespace Go.Proofs.YtmmmghpimdfleaaGreatDoor.DTr
open Go.RowKit Mem Tr Wire TreeW TreeN Name TreeC Nar
set_option maxHeartbeats 8000000 in
set_option maxRecDepth 20000 in
theorem serialC (S:Nat->Prop) (k:Int) (ex:Bool) (t:ByteArray) (ks:Tr.Kids) (kv:Value) (w:World) (hb:ks.bulk<=2097152) (ht:t.size<=2097152) (hk:KidsAt S w kv ks) (hS:∀b,S b->b < w.heap.size) :
 Calls Tryz.prog 140 #[.agg #[.int .i64 k,.bool ex,.string t,kv]] w fun e w'=>Below w.heap.size w w'/\e = .returned (serV k ex t ks):=by
 obtain ⟨ao,cap,rfl,_,_,_⟩:=id hk;obtain ⟨nk,hnk⟩:∃nk,ks.len=nk:=⟨_,rfl⟩;rw [hnk] at hk ⊢;have HK:=Lib.hid hk;have HS:=Lib.hid hS;have HSV:=Lib.hid (show serV k ex t ks=if (walkR k ex t ks).2.1=0 then .tuple #[.string ⟨(serial k ex t ks).toArray⟩,.int .i64 0] else .tuple #[.string ⟨#[]⟩,.int .i64 (walkR k ex t ks).2.1] from rfl);obtain ⟨code,hcode⟩:∃code,(walkR k ex t ks).2.1=code:=⟨_,rfl⟩;have hl:=lookC S k ex t ks (.slice ao nk cap) w (by omega) (by omega) hk hS;clear hl;have HL:=Lib.hid (show ∀W,Below w.heap.size w W->Calls Tryz.prog 176 #[.agg #[.int .i64 k,.bool ex,.string t,.slice ao nk cap]] W fun e w'=>Below W.heap.size W w'/\∃ (a:Option Addr) (n c:Nat) (m:Int) (q:ByteArray),e = .returned (.agg #[.slice a n c,.int .i64 m,.int .i64 code,.string q]) from fun W h=>by
  rw [←hcode];exact lookC S k ex t ks (.slice ao nk cap) W (by omega) (by omega) (HK.out.below h) (fun b hb=>Nat.lt_of_lt_of_le (HS.out b hb) h.size))
 have HRW:=Lib.hid (show ∀W,Below w.heap.size w W->Calls Tryz.prog 178 #[.agg #[.int .i64 k,.bool ex,.string t,.slice ao nk cap]] W fun e w'=>∃X:ByteArray,e = .returned (.string X)/\X.data.toList=raw k ex t ks/\Below W.heap.size W w' from fun W h =>
  DRaw.rawNC (ks.bulk+1) k ex t ks (.slice ao nk cap) S W (Nat.lt_succ_self _) hb ht (HK.out.below h) (fun b hb=>Nat.lt_of_lt_of_le (HS.out b hb) h.size))
 have HSER:=Lib.hid (show serial k ex t ks=words magicW ++ raw k ex t ks from rfl);have hrl:=rawN_length k ex t (rawK ks);have hrl2:=rawK_length ks;have HRL:=Lib.hid (show (raw k ex t ks).length<=429430400 from by unfold raw;omega);rw [hcode] at HSV;clear hcode hk hnk hS hrl hrl2 hb ht
 go_enter Tryz.func140,Tryz.ntmps140
 go_wp2_with fail;refine calls_named fun w1 hw1=>?_
 obtain ⟨b1,x1⟩:=alloc_fact hw1;have XN:=Lib.hid x1;clear hw1 x1;refine (HL.out w1 b1).mono ?_;rintro e w2 ⟨d2,a,n,c,m,q,rfl⟩;have b2:=b1.trans (d2.mono b1.size);have XN2:=Lib.hid (XN.out.below d2);clear d2;by_cases hc:code=0
 · subst hc;have HE:=Lib.hid (show serV k ex t ks = .tuple #[.string ⟨(serial k ex t ks).toArray⟩,.int .i64 0] by rw [HSV.out,if_pos rfl])
   go_wp2_with fail;obtain ⟨w3,hw3⟩:∃W,w2.alloc (.cells #[.slice a n c,.int .i64 m,.int .i64 0,.string q] 232)=W:=⟨_,rfl⟩;rw [hw3];have d3:Below w2.heap.size w2 w3:=(by rw [←hw3];exact (Below.refl _ w2).alloc (Nat.le_refl _) _);have b3:=b2.trans (d3.mono b2.size);clear hw3;have hS:∀W',Below w3.heap.size w3 W'->W'.rangeAt w.heap.size 0 [.int .i64 k,.bool ex,.string t,.slice ao nk cap]:=fun W' hb=>by have:=((XN2.out.below d3).below hb).range;simpa using this
   have hS0:=hS w3.drew (Below.refl _ w3).drew;refine wp_region_held_drew (S:=fun W'=>W'.rangeAt w.heap.size 0 [.int .i64 k,.bool ex,.string t,.slice ao nk cap]) (by kernel_rfl) hS0 (fun hHeld=>?_);refine' wpAnyH_take (i:=1) (v:=_) rfl (by kernel_rfl) (by kernel_rfl) (by kernel_rfl) (fun _ _ _ h=>h) (yieldsIf_load_mid (by rfl) 26 _ (by rfl) (w.heap.size) 0 (by rfl) ([.int .i64 k,.bool ex,.string t,.slice ao nk cap]) _ (fun w h=>h) Tryz.underlying26 rfl (by kernel_rfl)) (by assumption) ?_;simp only [Act.put,List.setIfInBounds_toArray,List.set_cons_zero,List.set_cons_succ];refine wpAnyH_ready (rs:=[0]) (by kernel_rfl) (by simp) ?_;refine (AllReadyH.cons rfl (fun K hK=>?_) AllReadyH.nil)
   go_simp;refine (DWi.textC ⟨#[100,101,112,111,116,45,97,114,99,104,105,118,101,45,49]⟩ w3.drew (by decide)).mono ?_;rintro e v1 ⟨rfl,e1⟩;have d1:Below w3.heap.size w3 v1:=Copy.below_undrew e1;refine hK.out _ _ (hS v1 d1) (fun hHeld=>?_);clear hK K e1;refine wpAnyH_ready (rs:=[2]) (by kernel_rfl) (by simp) ?_;refine (AllReadyH.cons rfl (fun K hK=>?_) AllReadyH.nil)
   go_simp;refine (HRW.out v1 (b3.trans (d1.mono b3.size))).mono ?_;rintro e v2 ⟨X,rfl,hX,e2⟩;have d2:Below w3.heap.size w3 v2:=d1.trans (e2.mono d1.size);have HX:=Lib.hid hX;have hXs:X.size<=429430400:=(by rw [←DRaw.size_data,hX];exact HRL.out);refine hK.out _ _ (hS v2 d2) (fun hHeld=>?_);clear hK K hX e2;obtain ⟨M,hM⟩:∃M:ByteArray,(⟨(word (ByteArray.data ⟨#[100,101,112,111,116,45,97,114,99,104,105,118,101,45,49]⟩).toList).toArray⟩:ByteArray)=M:=⟨_,rfl⟩;have hMs:M.size<=24:=(by rw [←hM];decide);have HMD:=Lib.hid (show M.data.toList=words magicW by rw [←hM];decide);rw [hM];clear hM;refine wpAnyH_take (i:=3) (v:=?_) rfl (by kernel_rfl) (by kernel_rfl) (by kernel_rfl) (fun _ _ _ h=>h) (Or.inl ⟨by rfl,?_⟩) (by assumption) ?_
   rotate_left
   · (intro w hSw;go_simp;rw [if_neg (by omega)];try with_reducible rfl)
   simp only [Act.put,List.setIfInBounds_toArray,List.set_cons_zero,List.set_cons_succ];refine wpAnyH_take (i:=4) (v:=?_) rfl (by kernel_rfl) (by kernel_rfl) (by kernel_rfl) (fun _ _ _ h=>h) (Or.inl ⟨by rfl,?_⟩) (by assumption) ?_
   rotate_left
   · (intro w hSw;go_simp;try with_reducible rfl)
   simp only [Act.put,List.setIfInBounds_toArray,List.set_cons_zero,List.set_cons_succ];refine wpAnyH_take (i:=5) (v:=?_) rfl (by kernel_rfl) (by kernel_rfl) (by kernel_rfl) (fun _ _ _ h=>h) (Or.inl ⟨by rfl,?_⟩) (by assumption) ?_
   rotate_left
   · (intro w hSw;go_simp;try with_reducible rfl)
   simp only [Act.put,List.setIfInBounds_toArray,List.set_cons_zero,List.set_cons_succ];refine wpAnyH_done (by kernel_rfl) ?_ _;clear hHeld hS hS0
   try simp only [List.getElem_toArray,List.getElem_cons_zero,List.getElem_cons_succ,List.set_cons_zero,List.set_cons_succ,List.setIfInBounds_toArray]
   go_wp2_with fail
   go_ret2;refine ⟨b3.trans (d2.mono b3.size),?_⟩;rw [HE.out];have HC:(⟨(serial k ex t ks).toArray⟩:ByteArray)=M ++ X:=Lb.str_eq (by rw [DRaw.cat,HMD.out,HX.out,HSER.out]);rw [HC];rfl
 · have t3:(code != 0)=true:=(by rw [bne_iff_ne];exact hc);have HE:=Lib.hid (show serV k ex t ks = .tuple #[.string ⟨#[]⟩,.int .i64 code] by rw [HSV.out,if_neg hc])
   go_wp2_with fail
   go_quiet (fail)
   go_wp2_with fail
   go_ret2;have ba:=b2.alloc b2.size (.cells #[.slice a n c,.int .i64 m,.int .i64 code,.string q] 232);exact ⟨ba.trans ((Dn.drewN _ _).below.mono ba.size),by rw [HE.out];rfl⟩
end Go.Proofs.YtmmmghpimdfleaaGreatDoor.DTr

namespace Go.Proofs.YtmmmghpimdfleaaGreatDoor.DSum
open Go.RowKit Mem Tr Wire TreeW Name TreeN TreeC BldW Nar
open Go.Proofs.YtmmmghpimdfleaaGreatDoor.Sum
open Go.Proofs.YtmmmghpimdfleaaGreatDoor.DSha (rcD stD)
set_option maxRecDepth 100000 in
set_option maxHeartbeats 4000000 in
theorem sumC (S:Nat->Prop) (T:Tree) (kv:Value) (w:World) (hk:KidsAt S w kv T.kids) (hS:∀i,S i->i < w.heap.size) (hb:T.bulk<=2097152) :
 Calls Tryz.prog 102 #[nodeV T kv] w fun e w'=>e = .returned (sumV rcD stD T)/\Below w.heap.size w w':=by
 obtain ⟨k,ex,t,ks⟩:=T;have ht:t.size<=2097152:=(by simp only [Tree.bulk] at hb;omega);have hkb:ks.bulk<=2097152:=(by simp only [Tree.bulk] at hb;omega);have hsl:=serial_length k ex t ks;obtain ⟨ao,cap,hkv,hcl,hcm,hel⟩:=id hk;subst hkv;have HV:Hid (sumV rcD stD ⟨k,ex,t,ks⟩=if (walkR k ex t ks).2.1=0 then .tuple #[.agg (Lib.byteCells (Sha.ofText rcD stD (serial k ex t ks))).toArray,.int .i64 ((serial k ex t ks).length:Nat),.int .i64 0] else .tuple #[.agg (Lib.byteCells (List.replicate 32 0)).toArray,.int .i64 0,.int .i64 (walkR k ex t ks).2.1]):=Lib.hid rfl;unfold nodeV
 go_enter Tryz.func102,Tryz.ntmps102
 go_wp2_with fail;refine calls_named fun w0 hw0=>?_
 obtain ⟨b0,x0,y0⟩:=alloc_fact2 hw0;clear hw0;have b0s:=b0.size;refine (DTr.serialC S k ex t ks _ w0 hkb ht (hk.below b0) (fun i hi=>by have:=hS i hi;omega)).mono ?_;rintro e w1 ⟨b1,rfl⟩;have b1s:=b1.size;have yl:=y0.lt;have y1:=y0.below b1;have Y1:=Lib.hid y1;clear y0 y1 x0;have hsv:serV k ex t ks=if (walkR k ex t ks).2.1=0 then .tuple #[.string ⟨(serial k ex t ks).toArray⟩,.int .i64 0] else .tuple #[.string ⟨#[]⟩,.int .i64 (walkR k ex t ks).2.1]:=rfl
 rw [hsv];clear hsv;generalize hc:(walkR k ex t ks).2.1=c at *;by_cases h0:c=0
 · subst h0;rw [if_pos rfl] at HV;rw [if_pos (rfl:(0:Int)=0)];have hsz:(⟨(serial k ex t ks).toArray⟩:ByteArray).size=(serial k ex t ks).length:=(by simp [bsize]);have hdat:(⟨(serial k ex t ks).toArray⟩:ByteArray).data.toList=serial k ex t ks:=rfl;obtain ⟨X,hX⟩:∃X:ByteArray,(⟨(serial k ex t ks).toArray⟩:ByteArray)=X:=⟨_,rfl⟩;rw [hX] at hsz hdat ⊢;have hxl:X.size<=1099511627776:=(by omega);have HSZ:=Lib.hid hsz;have HD:=Lib.hid hdat;clear hsz hdat hX hsl hc
   go_wp2_with fail;refine (DSha.ofC X _ hxl).mono ?_;rintro e w2 ⟨rfl,b2⟩;rw [HD.out];have b2s:=b2.size;obtain ⟨D,hD⟩:∃D,Lib.byteCells (Sha.ofText rcD stD (serial k ex t ks))=D:=⟨_,rfl⟩;have hDl:D.length=32:=(by rw [←hD,Lib.byteCells_length];exact Sha.sum_length _ _);have hDo:∀v∈D,v.oneCell'=true:=fun v hv=>by
    rw [←hD] at hv;obtain ⟨j,_,rfl⟩:=List.mem_map.1 hv;rfl
   rw [hD];have Y2:=Lib.hid (Y1.out.below b2);have HDD:=Lib.hid hD;have HDl:=Lib.hid hDl;have HDo:=Lib.hid hDo;clear hD hDl hDo
   go_wp2_with ((refine wpList_store_mid (by rfl) 28 _ _ (by rfl) (w.heap.size+1) 0 D.toArray (by rfl) (by rfl) ?h4 ?h5 ?h6 ?_;rotate_right))
   case h4=>exact Y2.out.there _ (by rw [show D.toArray.size=32 by rw [List.size_toArray,HDl.out]];rfl)
   case h5=>rw [List.size_toArray,HDl.out];kernel_rfl
   case h6=>exact all_oneCell_toArray HDo.out
   have hfin:(w2.setCells (w.heap.size+1) 0 D).rangeAt (w.heap.size+1) 0 D:=World.rangeAt_setCells_same _ _ _ _ (Y2.out.there _ (by rw [HDl.out];rfl));have hlv:=run_loadVar_mid (P:=Tryz.prog) _ (w.heap.size+1) 0 28 D _ hfin Tryz.underlying28 rfl (by rw [HDl.out];kernel_rfl);refine bodyPost_ret (v:=.tuple #[.agg D.toArray,.int .i64 (X.size:Nat),.int .i64 0]) (results_cell22 Tryz.results102 rfl hlv rfl rfl) rfl ⟨?_,?_⟩
   · rw [HV.out,←HDD.out,HSZ.out]
   · exact ((b0.trans (b1.mono b0s)).trans (b2.mono (by omega))).grown (Sha.gb_sets _ _ _ _) (by omega) (fun k e=>by have:=Option.some.inj e;omega)
 · rw [if_neg h0] at HV;rw [if_neg h0];have q:(c != 0)=true:=(by simp [h0]);have HZ:=Lib.hid (show DSha.z32b=(Lib.byteCells (List.replicate 32 0)).toArray by kernel_rfl);clear h0 hc
   go_wp2_with (refine wpList_store_mid (by rfl) 28 _ _ (by rfl) (w.heap.size+1) 0 DSha.z32b (by rfl) (by rfl) ?h4 ?h5 ?h6 ?_;rotate_right;refine Mem.named ?_;intro W hW)
   case h4=>first | exact Y1.out.there 32 rfl | exact Y1.out.there _ (by kernel_rfl) | exact Y1.out.there _ rfl
   case h5=>first | exact DSha.info32 | kernel_rfl
   case h6=>rw [HZ.out];exact all_oneCell_toArray (fun v hv=>by obtain ⟨j,_,rfl⟩:=List.mem_map.1 hv;rfl)
   rw [HZ.out] at hW;have hW2:w1.setCells (w.heap.size+1) 0 (Lib.byteCells (List.replicate 32 0))=W:=hW;clear hW;have hfin:W.rangeAt (w.heap.size+1) 0 (Lib.byteCells (List.replicate 32 0)):=(by rw [←hW2];exact World.rangeAt_setCells_same _ _ _ _ (Y1.out.there _ rfl));have hbF:Below w.heap.size w W:=(by rw [←hW2];exact (b0.trans (b1.mono b0s)).grown (Sha.gb_sets _ _ _ _) (by omega) (fun k e=>by have:=Option.some.inj e;omega));clear hW2;have hlv:=run_loadVar_mid (P:=Tryz.prog) _ (w.heap.size+1) 0 28 (Lib.byteCells (List.replicate 32 0)) _ hfin Tryz.underlying28 rfl (by kernel_rfl);refine bodyPost_ret (v:=.tuple #[.agg (Lib.byteCells (List.replicate 32 0)).toArray,.int .i64 0,.int .i64 c]) (results_cell22 Tryz.results102 rfl hlv rfl rfl) rfl ⟨?_,?_⟩
   · rw [HV.out]
   · exact hbF
end Go.Proofs.YtmmmghpimdfleaaGreatDoor.DSum

namespace Go.Proofs.YtmmmghpimdfleaaGreatDoor.DVa
open Go.RowKit Mem Tr St
open Go.Proofs.YtmmmghpimdfleaaGreatDoor.Own
open Go.Proofs.YtmmmghpimdfleaaGreatDoor.DSha (rcD stD)
theorem eqArr (a b:List UInt8) (ha:a.length=32) (hb:b.length=32) (w:World) :
 (Op.equalIn 10000 28 (.agg (Lib.byteCells a).toArray) (.agg (Lib.byteCells b).toArray)).run Tryz.prog w = .ok (a == b) w :=
 run_equalIn_bytes w 9998 28 5 32 Tryz.underlying28 Tryz.underlying5 (fun _=>by kernel_rfl) a b ha hb
theorem parseB (s:ByteArray) (w:World) (hs:s.size<=1099511627776):Calls Tryz.prog 138 #[.string s] w fun e w'=>e = .returned (Pre.parseE s)/\Below w.heap.size w w' :=
 (DSp.parseC s w hs).mono fun e w' h=>⟨h.1,h.2 ▸ Below.refl _ _⟩
theorem refsB (v:Value) (l:List ByteArray) (w:World) (hr:Texts.Reads w v l) (hsz:∀s∈l,s.size<=1099511627776):Calls Tryz.prog 139 #[v] w fun e w'=>e = .returned (.int .i64 (Pre.refsE l))/\Below w.heap.size w w' :=
 (DSp.refsC v l w hr hsz).mono fun e w' h=>⟨h.1,h.2 ▸ Below.refl _ _⟩
set_option maxHeartbeats 4000000 in
set_option maxRecDepth 20000 in
theorem validC (S:Nat->Prop) (r:Rec) (cs:List Value) (w:World) (h:RecAt S w cs r) (hS:∀b,S b->b < w.heap.size) (hb:r.bulk<=2097152) :
 Calls Tryz.prog 101 #[.agg cs.toArray] w fun e w'=>e = .returned (.int .i64 (Sto.validE rcD stD r))/\Below w.heap.size w w':=by
 have hcl:=h.length;have hps:r.path.size<=1099511627776:=(by unfold Rec.bulk at hb;omega);have HREFS:=Lib.hid (show ∀s∈r.refs,s.size<=1099511627776 from fun s hs=>by have h1:=size_bulks hs;unfold Rec.bulk at hb;omega);obtain ⟨kv,rv,hcs,hh,hk,hr⟩:=h;have HK:=Lib.hid hk;have HR:=Lib.hid hr;have HCS:=Lib.hid hcs.symm;obtain ⟨ao,cap,rfl,_,_,_⟩:=hk;obtain ⟨ao2,cap2,rfl,_,_,_⟩:=hr;obtain ⟨q0,q1,q2,q3,q4,q5⟩:=recFields hcs.symm hcl hh;obtain ⟨pa,pb,hpe⟩:=Pre.parseE_tuple r.path;have hP:=fun w1=>parseB r.path w1 hps
 rw [hpe] at hP;clear hcs hpe;by_cases h1:Pre.parseErr r.path=0
 case neg =>
  have hE:Sto.validE rcD stD r=Pre.parseErr r.path:=(by unfold Sto.validE;rw [if_neg h1]);rw [hE];obtain ⟨z,hz⟩:∃z,Pre.parseErr r.path=z:=⟨_,rfl⟩;rw [hz] at h1 hP ⊢;have t1:(z != 0)=true:=(by simpa using h1);clear hE hz h1
  go_enter Tryz.func101,Tryz.ntmps101
  go_wp2_with fail;refine calls_named fun w1 hw1=>?_
  obtain ⟨b1,x1⟩:=alloc_fact hw1;clear hw1 q0 q1 q2 q3 q4 q5 x1;refine (hP w1).mono ?_;rintro e w2 ⟨rfl,b2⟩
  go_wp2_with fail
  go_ret;exact ⟨rfl,b1.trans (b2.mono b1.size)⟩
 rw [h1] at hP;have hbt:r.tree.bulk<=2097152:=(by unfold Rec.bulk at hb;omega)
 go_enter Tryz.func101,Tryz.ntmps101
 go_wp2_with fail;refine calls_named fun w1 hw1=>?_
 obtain ⟨b1,x1⟩:=alloc_fact hw1;have X1:=Lib.hid (show RB w1 w.heap.size r (.slice ao r.tree.kids.len cap) (.slice ao2 r.refs.length cap2) from ⟨by rw [HCS.out];exact x1,hh⟩);clear hw1 q0 q1 q2 q3 q4 q5 x1;refine (hP w1).mono ?_;rintro e w2 ⟨rfl,b2⟩;clear hP;have X2:=Lib.hid (X1.out.below b2);have B2:=b1.trans (b2.mono b1.size);have g1:=X2.out.c1;have g2:=X2.out.c2;have g3:=X2.out.c3;have g4:=X2.out.c4
 go_wp2_with fail;refine (DSum.sumC S r.tree _ w2 (HK.out.below B2) (fun i hi=>Nat.lt_of_lt_of_le (hS i hi) B2.size) hbt).mono ?_;rintro e w3 ⟨rfl,b3⟩;obtain ⟨D,sz,hv,hDl,hD0⟩:=sumV_form rcD stD r.tree;rw [hv];have HE:Hid (Sto.validE rcD stD r=if Sum.codeOf r.tree=0 then (if r.size=sz then (if r.hash=D then Pre.refsE r.refs else 131) else 152) else Sum.codeOf r.tree):=Lib.hid (by
  unfold Sto.validE;rw [if_pos h1];by_cases h:Sum.codeOf r.tree=0
  · rw [if_pos h,if_pos h,(hD0 h).1,(hD0 h).2]
  · rw [if_neg h,if_neg h])
 obtain ⟨c,hc⟩:∃c,Sum.codeOf r.tree=c:=⟨_,rfl⟩;rw [hc] at HE ⊢;have B3:=B2.trans (b3.mono B2.size);have X3:=Lib.hid (X2.out.below b3);have HQ:=Lib.hid (fun w=>eqArr r.hash D hh hDl w);obtain ⟨DC,hDC⟩:∃DC,Lib.byteCells D=DC:=⟨_,rfl⟩;have hDCl:DC.length=32:=(by rw [←hDC,Lib.byteCells_length,hDl]);have hDCo:∀v∈DC,v.oneCell'=true:=(by rw [←hDC];exact bytes_one D);rw [hDC] at HQ ⊢;obtain ⟨RC,hRC⟩:∃RC,Lib.byteCells r.hash=RC:=⟨_,rfl⟩;rw [hRC] at HQ;have hRCl:RC.length=32:=(by rw [←hRC,Lib.byteCells_length,hh]);have HRC:=Lib.hid hRC;have HDC:=Lib.hid hDC;clear hc hv hD0 h1 hDC hRC g1 g2 g3 g4 hDl;by_cases h2:c=0
 case neg =>
  have t2:(c != 0)=true:=(by simpa using h2)
  go_wp2_with (refine wpList_store_mid (by rfl) 28 _ _ (by rfl) w3.heap.size 0 DC.toArray (by rfl) (by rfl) ?h4 ?h5 ?h6 ?_;rotate_right;refine Mem.named ?_;intro W hW)
  case h4=>exact (Bx.new w3 _ _).there _ (by rw [show DC.toArray.size=32 by simpa using hDCl];rfl)
  case h5=>rw [List.size_toArray,hDCl];kernel_rfl
  case h6=>exact all_oneCell_toArray hDCo
  have B4:=B3.trans ((stash hW).mono B3.size)
  go_ret;exact ⟨by rw [HE.out,if_neg h2];rfl,B4⟩
 subst h2;have HE2:Hid (Sto.validE rcD stD r=if r.size=sz then (if r.hash=D then Pre.refsE r.refs else 131) else 152):=Lib.hid (by rw [HE.out,if_pos rfl]);clear HE;by_cases h3:r.size=sz
 case neg =>
  have t3:(r.size != sz)=true:=(by simpa using h3)
  go_wp2_with (refine wpList_store_mid (by rfl) 28 _ _ (by rfl) w3.heap.size 0 DC.toArray (by rfl) (by rfl) ?a4 ?a5 ?a6 ?_;rotate_right;refine Mem.named ?_;intro W hW;have g38:=(X3.out.below (stash hW)).c38)
  case a4=>exact (Bx.new w3 _ _).there _ (by rw [show DC.toArray.size=32 by simpa using hDCl];rfl)
  case a5=>rw [List.size_toArray,hDCl];kernel_rfl
  case a6=>exact all_oneCell_toArray hDCo
  have B4:=B3.trans ((stash hW).mono B3.size)
  go_ret;exact ⟨by rw [HE2.out,if_neg h3];rfl,B4⟩
 have t3:(r.size != sz)=false:=(by simpa using h3);have hu:=Tryz.underlying29;have hu2:=Tryz.underlying28;by_cases h4:r.hash=D
 case neg =>
  have hq:∀w,(Op.equalIn 10000 28 (.agg RC.toArray) (.agg DC.toArray)).run Tryz.prog w = .ok false w:=fun w=>by rw [HQ.out w];congr 1;simpa using h4
  go_wp2_with (first
   | (refine wpList_store_mid (by rfl) 28 _ _ (by rfl) w3.heap.size 0 DC.toArray (by rfl) (by rfl) ?b4 ?b5 ?b6 ?_;rotate_right;refine Mem.named ?_;intro W hW;have g38:=(X3.out.below (stash hW)).c38;have r1:=(X3.out.below (stash hW)).hash;rw [HRC.out] at r1;have r2:=stash_range hW (hDCl.symm))
   | (refine wpList_load_mid rfl 29 _ (by rfl) w.heap.size 6 (by rfl) RC _ r1 hu rfl (by rw [hRCl];kernel_rfl) ?_)
   | (refine wpList_load_mid rfl 28 _ (by rfl) w3.heap.size 0 (by rfl) DC _ r2 hu2 rfl (by rw [hDCl];kernel_rfl) ?_))
  case b4=>exact (Bx.new w3 _ _).there _ (by rw [show DC.toArray.size=32 by simpa using hDCl];rfl)
  case b5=>rw [List.size_toArray,hDCl];kernel_rfl
  case b6=>exact all_oneCell_toArray hDCo
  have B4:=B3.trans ((stash hW).mono B3.size)
  go_ret;exact ⟨by rw [HE2.out,if_pos h3,if_neg h4];rfl,B4⟩
 have hq:∀w,(Op.equalIn 10000 28 (.agg RC.toArray) (.agg DC.toArray)).run Tryz.prog w = .ok true w:=fun w=>by rw [HQ.out w];congr 1;simpa using h4
 go_wp2_with (first
  | (refine wpList_store_mid (by rfl) 28 _ _ (by rfl) w3.heap.size 0 DC.toArray (by rfl) (by rfl) ?c4 ?c5 ?c6 ?_;rotate_right;refine Mem.named ?_;intro W hW;have g38:=(X3.out.below (stash hW)).c38;have g5:=(X3.out.below (stash hW)).c5;have r1:=(X3.out.below (stash hW)).hash;rw [HRC.out] at r1;have r2:=stash_range hW (hDCl.symm))
  | (refine wpList_load_mid rfl 29 _ (by rfl) w.heap.size 6 (by rfl) RC _ r1 hu rfl (by rw [hRCl];kernel_rfl) ?_)
  | (refine wpList_load_mid rfl 28 _ (by rfl) w3.heap.size 0 (by rfl) DC _ r2 hu2 rfl (by rw [hDCl];kernel_rfl) ?_))
 case c4=>exact (Bx.new w3 _ _).there _ (by rw [show DC.toArray.size=32 by simpa using hDCl];rfl)
 case c5=>rw [List.size_toArray,hDCl];kernel_rfl
 case c6=>exact all_oneCell_toArray hDCo
 have B4:=B3.trans ((stash hW).mono B3.size);refine (refsB _ r.refs W (HR.out.below B4).reads HREFS.out).mono ?_;rintro e w5 ⟨rfl,b5⟩
 go_wp2_with fail
 go_ret;exact ⟨by rw [HE2.out,if_pos h3,if_pos h4];rfl,B4.trans (b5.mono B4.size)⟩
end Go.Proofs.YtmmmghpimdfleaaGreatDoor.DVa
