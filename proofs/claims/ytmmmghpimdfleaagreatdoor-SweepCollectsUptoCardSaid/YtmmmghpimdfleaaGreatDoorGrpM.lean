/-
  tree.Copy: the same tree in new memory.
  tree.Equal: are two trees the same?
  slices.Equal at []string (as the ak Texts: the same walk).
-/
import Derived.Test.YtmmmghpimdfleaaGreatDoorTk
import Derived.Test.YtmmmghpimdfleaaGreatDoorGrpA
import Derived.Test.YtmmmghpimdfleaaGreatDoorGrpJ
import Derived.Deep.RegionHeld3
import Derived.Deep.AppendLies
set_option linter.unusedVariables false
set_option maxHeartbeats 4000000
namespace Go.Proofs.YtmmmghpimdfleaaGreatDoor
namespace Copy
open Go.RowKit Mem Tr
def jw:Value:=.agg #[.string ⟨#[]⟩,.int .i64 0,.bool false,.string ⟨#[]⟩,.slice none 0 0]
theorem qP:(Tryz.prog.info? 116).map (fun i=>(i.zero,i.size,i.bytes))=some (some jw,5,72):=by kernel_rfl
def Hq(w:World)(k:Int)(ex:Bool)(t:ByteArray)(ks:Tr.Kids)(e:Ending)(w':World):Prop :=
 ∃kv',e = .returned (.agg #[.int .i64 k,.bool ex,.string t,kv'])/\ay (w.heap.size<=·) w' kv' ks/\Below w.heap.size w w'
theorem ax{w w':World}(h:Below w.drew.heap.size w.drew w'):Below w.heap.size w w':=⟨h.os,h.tape,h.output,h.size,h.block⟩
theorem own_below{w w':World}{B k n:Nat}{t:TypeId}{v:Value}{xs:List Value}(h:w.ownsRow B t k v n xs)(hb:Below w.heap.size w w'):w'.ownsRow B t k v n xs:=by
 refine⟨h.1,?_⟩;rcases h.2 with h0|⟨g,cap,cur,rfl,h1,hg,h2⟩
 ·exact .inl h0
 ·exact .inr ⟨g,cap,cur,rfl,h1,by rw[hb.block g (Array.getElem?_eq_some_iff.1 hg).1];exact hg,h2⟩
theorem qQ{S:Nat->Prop}{w:World}{nm tx:ByteArray}{kd:Int}{fQ:Bool}{kv:Value}{ks:Tr.Kids}(h:ay S w kv ks):∀u∈[Value.string nm,.int .i64 kd,.bool fQ,.string tx,kv],u.oneCell'=true:=by
 obtain⟨ao,cap,rfl,_⟩:=h;intro u hu;simp only[List.mem_cons,List.not_mem_nil,or_false]at hu;rcases hu with rfl|rfl|rfl|rfl|rfl<;>rfl
set_option maxRecDepth 20000 in
theorem copyN:∀(N:Nat) (k:Int) (ex:Bool) (t:ByteArray) (ks:Tr.Kids) (kv:Value) (S:Nat->Prop) (w:World),ks.bulk<N->ks.bulk<=4194304->ay S w kv ks ->
 Calls Tryz.prog 118 #[.agg #[.int .i64 k,.bool ex,.string t,kv]] w (Hq w k ex t ks):=by
 intro N
 induction N with
 | zero=>intro k ex t ks kv S w h;omega
 | succ N ih =>
  intro k ex t ks kv S w hN hB hk;obtain⟨i0,hi,hz0,hz1,hz2⟩:=info_parts qP;obtain⟨ao,cap,rfl,hcl,hcm,hel⟩:=hk;have hlen:=ks.jD;obtain⟨n,hn⟩:∃n,ks.len=n:=⟨_,rfl⟩;rw[hn]at hcl hlen ⊢;have Hn:=yH hn;have Hel:=yH hel;have HcL:=yH hcl;have Hcm:=yH hcm;have Hlen:=yH hlen;have HN:=yH hN;have HB:=yH hB;have NB:=yH (show n<=600000 by omega);clear hn hel hcl hcm hlen hN hB
  go_enter Tryz.func118,Tryz.ntmps118
  go_wp2_with (at_make;refine wpList_make_own _ rfl _ _ 24 rfl (w.heap.size+2) 116 i0 jw 5 Tryz.underlying24 hi hz0 hz1 .i64 .i64 _ n rfl rfl ?c1 ?c2 ?c3 ?c4 ?_)
  case c1=>rfl
  case c2=>rw[hz2];have:=NB.out;omega
  case c3=>have:=NB.out;unfold maxLen;omega
  case c4=>simp
  intro w1 hown hgrow;have x1:Bx w1 w.heap.size #[.int .i64 k,.bool ex,.string t,.slice ao n cap] 26:=((Bx.new w _ _).alloc _).kept (hgrow.block _ (by simp<;>omega) (by simp));have y1:Bx w1 (w.heap.size+1) #[.int .i64 0,.bool false,.string ⟨#[]⟩,.slice none 0 0] 26:=by
   have:=Bx.new (w.alloc (.cells #[.int .i64 k,.bool ex,.string t,.slice ao n cap] 26)) #[.int .i64 0,.bool false,.string ⟨#[]⟩,.slice none 0 0] 26;rw[World.size_alloc]at this;exact this.kept (hgrow.block _ (by simp<;>omega) (by simp))
  have B1:Below w.heap.size w w1:=(((Below.refl _ w).alloc (Nat.le_refl _) _).alloc (by simp) _).grown hgrow (by simp<;>omega) (by intro k hk;cases hk);have z1:w.heap.size+2<=w1.heap.size:=(by have:=hgrow.size;simp at this;omega);have c0:=x1.cell 3;have Z1:=yH z1;clear hgrow z1;simp at c0
  go_wp2_with fail
  go_loopw [3,5,13] (fun v _ i wr=>∃j:Nat,j<=n/\i = .int .i64 j/\Hid (∃xs,wr.ownsRow (w.heap.size+2) 116 5 v j xs/\Row (fun b=>w.heap.size+2<=b/\v.ownBlock≠some b) wr (ks.take j) xs)/\Bx wr w.heap.size #[.int .i64 k,.bool ex,.string t,.slice ao n cap] 26/\Bx wr (w.heap.size+1) #[.int .i64 0,.bool false,.string ⟨#[]⟩,.slice none 0 0] 26/\Below w.heap.size w wr/\Hid (w.heap.size+2<=wr.heap.size)) (fun _ _ i _=>n-(intOf i).toNat)
  case atStart=>exact⟨0,Nat.zero_le _,rfl,yH ⟨[],hown,by rw[Tr.Kids.take_zero];rfl⟩,x1,y1,B1,Z1⟩
  case round =>
   obtain⟨j,hj,rfl,hrow,xr,yr,br,zr⟩:=hrel;obtain⟨xs,hown0,hrow0⟩:=hrow.out;have HOWN:=yH hown0;have jE:=yH hrow0;clear hrow hown0 hrow0;by_cases hlt:j<n
   ·rcases Hel.out with h0|⟨sb,off,rfl,hel⟩
    ·rw[h0]at Hn;have:=Hn.out;simp[Tr.Kids.len]at this;omega
    have iF:=hel.below br;obtain⟨nm,kd,fQ,tx,sub,r,dL,cap2,hd0,hd1,hSb,g0,g1,g2,g3,g4,hsub,hbk⟩:=iF.at' (j:=j) (by rw[Hn.out];exact hlt);have e0:(0:Int)<=(j:Int):=Int.natCast_nonneg _;have e1:(j:Int)<(n:Int):=(by omega);have HD:=yH (ks.take_succ j hd0);have Nb:sub.bulk<N:=(by have:=HN.out;omega);have Nc:sub.bulk<=4194304:=(by have:=HB.out;omega);have HS:=yH hsub;have HS1:=yH Nb;have HS2:=yH Nc;clear hd0 hd1 hel iF hbk hsub Nb Nc
    go_wp2_with fail;obtain⟨w2,hw2⟩:∃W,wr.alloc (.cells #[.string nm,.int .i64 kd,.bool fQ,.string tx,.slice dL sub.len cap2] 116)=W:=⟨_,rfl⟩;rw[hw2];obtain⟨bb2,x2⟩:=af hw2;clear hw2 g0 g1 g2 g3 g4;have hS2:w2.cell? ⟨wr.heap.size,0,none⟩=some (.string nm)/\w2.cell? ⟨wr.heap.size,1,none⟩=some (.int .i64 kd)/\w2.cell? ⟨wr.heap.size,2,none⟩=some (.bool fQ)/\w2.cell? ⟨wr.heap.size,3,none⟩=some (.string tx)/\w2.cell? ⟨wr.heap.size,4,none⟩=some (.slice dL sub.len cap2):=⟨x2.cell 0,x2.cell 1,x2.cell 2,x2.cell 3,x2.cell 4⟩;have hk2:=HS.out.below bb2;have X2:=yH x2;clear x2
    go_region_held3 (fun w'=>w'.cell? ⟨wr.heap.size,0,none⟩=some (.string nm)/\w'.cell? ⟨wr.heap.size,1,none⟩=some (.int .i64 kd)/\w'.cell? ⟨wr.heap.size,2,none⟩=some (.bool fQ)/\w'.cell? ⟨wr.heap.size,3,none⟩=some (.string tx)/\w'.cell? ⟨wr.heap.size,4,none⟩=some (.slice dL sub.len cap2)) (first|assumption|exact hS3|go_keep) (first
     | (go_at_call 118;have HC:=ih kd fQ tx sub (.slice dL sub.len cap2) S w2.drew HS1.out HS2.out (hk2.ag (Ag.kE ⟨1,rfl⟩));refine HC.mono ?_;clear HC;rintro e w3 ⟨kv',rfl,hk3,b3⟩;have b3':Below w2.heap.size w2 w3:=(by first|exact b3|exact ax b3);have x3:=X2.out.below b3';have hS3:w3.cell? ⟨wr.heap.size,0,none⟩=some (.string nm)/\w3.cell? ⟨wr.heap.size,1,none⟩=some (.int .i64 kd)/\w3.cell? ⟨wr.heap.size,2,none⟩=some (.bool fQ)/\w3.cell? ⟨wr.heap.size,3,none⟩=some (.string tx)/\w3.cell? ⟨wr.heap.size,4,none⟩=some (.slice dL sub.len cap2):=⟨x3.cell 0,x3.cell 1,x3.cell 2,x3.cell 3,x3.cell 4⟩;clear x3;have hown3:w3.ownsRow (w.heap.size+2) 116 5 u3 j xs:=own_below (own_below HOWN.out bb2) b3';have hone:∀u∈[.string nm,.int .i64 kd,.bool fQ,.string tx,kv'],u.oneCell'=true:=qQ hk3)
     | (refine step_append_lies _ (by rfl) _ _ _ (by rfl) (w.heap.size+2) 116 i0 jw 5 72 Tryz.underlying24 hi hz0 hz1 hz2 rfl (by omega) u3 j xs (by rfl) (hown3.alloc _) ⟨w3.heap.size,0,none⟩ 1 1 [.string nm,.int .i64 kd,.bool fQ,.string tx,kv'] (by rfl) (by rfl) (World.news_of_block (cs:=#[.string nm,.int .i64 kd,.bool fQ,.string tx,kv']) (t:=116) (fr:=(0,0)) (heap_alloc_new w3 _)) hone (by omega) (by have:=NB.out;unfold maxLen;omega) (by have:=NB.out;omega) (by have:=zr.out;have:=b3'.size;have:=bb2.size;simp;omega) _ rfl ?_;intro gg cap3 w5 hown5 cu uJ Nh;have x5:=((X2.out.below b3').alloc (.cells #[.string nm,.int .i64 kd,.bool fQ,.string tx,kv'] 116)).kept (cu.block _ (by simp;have:=(X2.out.below b3').lt;omega) (fun e=>by have:=(HOWN.out.lt _ e.symm).2;omega));have hS3:w5.cell? ⟨wr.heap.size,0,none⟩=some (.string nm)/\w5.cell? ⟨wr.heap.size,1,none⟩=some (.int .i64 kd)/\w5.cell? ⟨wr.heap.size,2,none⟩=some (.bool fQ)/\w5.cell? ⟨wr.heap.size,3,none⟩=some (.string tx)/\w5.cell? ⟨wr.heap.size,4,none⟩=some (.slice dL sub.len cap2):=⟨x5.cell 0,x5.cell 1,x5.cell 2,x5.cell 3,x5.cell 4⟩;clear x5))
    go_wp2_with fail;have b5:Below w.heap.size w3 w5:=((Below.refl _ w3).alloc (by have:=zr.out;have:=b3'.size;have:=bb2.size;omega) _).grown cu (by simp;have:=zr.out;have:=b3'.size;have:=bb2.size;omega) (fun k hk=>by have:=(HOWN.out.lt k hk).1;omega);have B3:Below wr.heap.size wr w3:=bb2.trans (b3'.mono bb2.size);have B5:Below w.heap.size w w5:=(br.trans (B3.mono br.size)).trans b5
    go_roundw
    case rel =>
     have nb:=NB.out;have hlt3:∀b,u3.ownBlock=some b->b<wr.heap.size:=fun b hb=>(HOWN.out.lt b hb).2
     have z:=zr.out;have s2:=bb2.size;have s3:=b3'.size;have TS:Ag (fun b=>u3.ownBlock≠some b) w3 w5:=fun q hs hq=>(cu.block q (by simp;omega) (fun e=>hs e.symm)).trans (Below.heap_alloc w3 _ q hq)
     have CX:∀b,b<w3.heap.size->u3.ownBlock≠some b->b≠gg:=fun b hb hu e=>by
      subst e;rcases uJ with h|h
      ·exact hu h
      ·simp at h;omega
     have r3:=((jE.out.below B3).sub (S':=fun b=>(w.heap.size+2<=b/\b≠gg)/\u3.ownBlock≠some b) (fun q hq hs=>⟨⟨hs.1,CX q hq hs.2⟩,hs.2⟩)).ag (TS.mono (fun q hq=>hq.2));have k3:=(hk3.sub (S':=fun b=>(w.heap.size+2<=b/\b≠gg)/\u3.ownBlock≠some b) (fun q hq (hs:w2.heap.size<=q)=>by
      have hu:u3.ownBlock≠some q:=fun e=>by have:=hlt3 q e;omega
      exact⟨⟨by omega,CX q hq hu⟩,hu⟩)).ag (TS.mono (fun q hq=>hq.2))
     have r5:=(Row.snoc (nm:=nm) (k:=kd) (e:=fQ) (t:=tx) k3 r3).sub (S':=fun b=>w.heap.size+2<=b/\(Value.slice (some ⟨gg,0,none⟩) (j+1) cap3).ownBlock≠some b) (fun q hq hs=>⟨hs.1.1,fun e=>hs.1.2 (by simpa[Value.ownBlock]using e.symm)⟩);have s5:=cu.size;refine⟨j+1,by omega,by rw[Go.IntWalk.wrap64_in _ (by omega)];go_num,yH ⟨_,hown5,by rw[HD.out];exact r5⟩,?_,?_,B5,yH (by simp at s5;omega)⟩
     ·exact((xr.below B3).alloc _).kept (cu.block _ (by simp;omega) (fun e=>by have:=(HOWN.out.lt _ e.symm).1;omega))
     ·exact((yr.below B3).alloc _).kept (cu.block _ (by simp;omega) (fun e=>by have:=(HOWN.out.lt _ e.symm).1;omega))
    case measure=>have:=NB.out;rw[Go.IntWalk.wrap64_in _ (by omega)];simp[intOf];omega
   ·obtain rfl:j=n:=(by omega);have hxr:=yH xr;have c0:wr.cell? ⟨w.heap.size,0,none⟩=some (.int .i64 k):=xr.cell 0;have c1:wr.cell? ⟨w.heap.size,1,none⟩=some (.bool ex):=xr.cell 1;have c2:wr.cell? ⟨w.heap.size,2,none⟩=some (.string t):=xr.cell 2;have c3:wr.cell? ⟨w.heap.size,3,none⟩=some (.slice ao j cap):=xr.cell 3;have f3:=xr.frozen 3;have d0:wr.cell? ⟨w.heap.size+1,0,none⟩=some (.int .i64 0):=yr.cell 0;have d1:wr.cell? ⟨w.heap.size+1,1,none⟩=some (.bool false):=yr.cell 1;have d2:wr.cell? ⟨w.heap.size+1,2,none⟩=some (.string ⟨#[]⟩):=yr.cell 2;have d3:wr.cell? ⟨w.heap.size+1,3,none⟩=some (.slice none 0 0):=yr.cell 3;have g0:=yr.frozen 0;have g1:=yr.frozen 1;have g2:=yr.frozen 2;have g3:=yr.frozen 3;rw[Tr.Kids.jL ks j (by rw[Hn.out];exact Nat.le_refl _)]at jE;obtain⟨a3,c3,hv3⟩:∃a c,u3 = .slice a j c:=by
     rcases HOWN.out.2 with⟨h,h0⟩|⟨g,cp,cur,h,_⟩
     ·exact⟨none,0,by rw[h,h0]⟩
     ·exact⟨_,_,h⟩
    subst hv3;have YR:=yH yr;clear xr yr
    go_wp2_with fail;obtain⟨W,hW⟩:∃W,((((wr.setCell ⟨w.heap.size,3,none⟩ (.slice a3 j c3)).setCell ⟨w.heap.size+1,0,none⟩ (.int .i64 k)).setCell ⟨w.heap.size+1,1,none⟩ (.bool ex)).setCell ⟨w.heap.size+1,2,none⟩ (.string t)).setCell ⟨w.heap.size+1,3,none⟩ (.slice a3 j c3)=W:=⟨_,rfl⟩;rw[hW];have yf:Bx W (w.heap.size+1) #[.int .i64 k,.bool ex,.string t,.slice a3 j c3] 26:=by
     have:=((((YR.out.aH (p:=⟨w.heap.size,3,none⟩) (.slice a3 j c3) (by simp)).set 0 (.int .i64 k)).set 1 (.bool ex)).set 2 (.string t)).set 3 (.slice a3 j c3);rw[hW]at this
     simpa using this
    have kf:Kp (fun b=>b=w.heap.size∨b=w.heap.size+1) wr W:=(by rw[←hW];exact(((((Kp.refl _ wr).setCell ⟨w.heap.size,3,none⟩ _ (fun _=>.inl rfl)).setCell ⟨w.heap.size+1,0,none⟩ _ (fun _=>.inr rfl)).setCell ⟨w.heap.size+1,1,none⟩ _ (fun _=>.inr rfl)).setCell ⟨w.heap.size+1,2,none⟩ _ (fun _=>.inr rfl)).setCell ⟨w.heap.size+1,3,none⟩ _ (fun _=>.inr rfl));clear hW;have hlv:=run_loadVar_mid (P:=Tryz.prog) W (w.heap.size+1) 0 26 [.int .i64 k,.bool ex,.string t,.slice a3 j c3] _ yf.range Tryz.underlying26 rfl (by kernel_rfl);refine bodyPost_ret (v:=.agg #[.int .i64 k,.bool ex,.string t,.slice a3 j c3]) (ai Tryz.results118 rfl hlv) rfl ⟨_,rfl,?_,?_⟩
    ·have hr:=(jE.out.ag (Ag.bg kf (fun q _ hq h=>by rcases h with rfl|rfl<;>have:=hq.1<;>omega))).sub (S':=(w.heap.size<=·)) (fun q _ hq=>by have:=hq.1;omega);have ho:=Tab.aN HOWN.out kf (fun b hb h=>by have:=(HOWN.out.lt b hb).1;rcases h with rfl|rfl<;>omega);exact Row.kids (B:=w.heap.size+2) hr (fun b (hb:w.heap.size+2<=b)=>(by omega:w.heap.size<=b)) (by rw[Hn.out];exact ho)
    ·exact br.trans (kf.below br.size (fun i hi h=>by rcases h with rfl|rfl<;>omega))
theorem TT(S:Nat->Prop)(T:Tree)(kv:Value)(w:World)(hk:ay S w kv T.kids)(hb:T.bulk<=4194304) :
 Calls Tryz.prog 118 #[Sum.iw T kv] w fun e w'=>∃kv',e = .returned (Sum.iw T kv')/\ay (w.heap.size<=·) w' kv' T.kids/\Below w.heap.size w w':=by
 obtain⟨k,ex,t,ks⟩:=T;exact copyN _ k ex t ks kv S w (Nat.lt_succ_self _) (by simp only[Tree.bulk]at hb;omega) hk
end Copy

namespace Eq
open Go.RowKit Mem Tr
/-- are they the same? -/
def wZ(a b:Tree):Bool:=decide (a=b)
def eqK(a b:Tr.Kids):Bool:=decide (a=b)
def EqAt(N:Nat):Prop:=∀(k l:Int) (e f:Bool) (t u:ByteArray) (ks ls:Tr.Kids) (kv lv:Value) (S S':Nat->Prop) (w:World),ks.bulk<N->ks.bulk<=4194304->ay S w kv ks->ay S' w lv ls ->
 Calls Tryz.prog 24 #[.agg #[.int .i64 k,.bool e,.string t,kv],.agg #[.int .i64 l,.bool f,.string u,lv]] w fun e' w'=>e' = .returned (.bool (wZ ⟨k,e,t,ks⟩ ⟨l,f,u,ls⟩))/\Below w.heap.size w w'
theorem bytes_beq{a b:ByteArray}:(a.toList==b.toList)=decide (a=b):=by
 by_cases h:a=b
 ·subst h;simp
 ·rw[decide_eq_false h,Lib.toList_data,Lib.toList_data]
  simpa using fun e=>h (Lb.str_eq e)
set_option maxRecDepth 20000 in
theorem closure{N:Nat}(ih:EqAt N)(na nb:ByteArray)(k l:Int)(e f:Bool)(t u:ByteArray)(ks ls:Tr.Kids)(kv lv:Value)(S S':Nat->Prop)(w:World)(hN:ks.bulk<N)(hB:ks.bulk<=4194304)(hk:ay S w kv ks)(hl:ay S' w lv ls) :
 Calls Tryz.prog 75 #[.agg #[.string na,.int .i64 k,.bool e,.string t,kv],.agg #[.string nb,.int .i64 l,.bool f,.string u,lv]] w fun e' w'=>e' = .returned (.bool (decide (na=nb)&&wZ ⟨k,e,t,ks⟩ ⟨l,f,u,ls⟩))/\Below w.heap.size w w':=by
 have HK:=yH hk;have HL:=yH hl;obtain⟨ao,cap,rfl,_⟩:=hk;obtain⟨dL,cap2,rfl,_⟩:=hl;have ht:=@bytes_beq na nb;have HT:=yH ht;clear ht;by_cases hn:na=nb
 ·subst hn;have tt:(na.toList==na.toList)=true:=(by simp);rw[decide_eq_true (rfl:na=na),Bool.true_and]
  go_enter Tryz.func75,Tryz.ntmps75
  go_wp2_with fail;refine ae fun w1 hw1=>?_
  obtain⟨b1,x1,y1⟩:=aQ hw1;clear hw1;refine(ih k l e f t u ks ls _ _ S S' w1 hN hB (HK.out.below b1) (HL.out.below b1)).mono ?_;rintro e' w2 ⟨rfl,b2⟩;have B:=b1.trans (b2.mono b1.size)
  go_wp2_with fail
  go_ret;exact⟨rfl,B⟩
 ·have tt:(na.toList==nb.toList)=false:=(by rw[HT.out];exact decide_eq_false hn);rw[decide_eq_false hn,Bool.false_and];clear hn
  go_enter Tryz.func75,Tryz.ntmps75
  go_wp2_with fail
  go_ret;exact⟨rfl,((Below.refl _ w).alloc (Nat.le_refl _) _).alloc (by simp) _⟩
theorem AO{a b:ByteArray}{k l:Int}{e f:Bool}{t u:ByteArray}{s s' r r':Tr.Kids}:(Tr.Kids.cons a k e t s r = .cons b l f u s' r')↔(a=b/\(⟨k,e,t,s⟩:Tree)=⟨l,f,u,s'⟩)/\r=r':=by
 constructor
 ·intro h;injection h with h1 h2 h3 h4 h5 h6;subst h1;subst h2;subst h3;subst h4;subst h5;subst h6;exact⟨⟨rfl,rfl⟩,rfl⟩
 ·rintro⟨⟨rfl,h⟩,rfl⟩;injection h with h2 h3 h4 h5;subst h2;subst h3;subst h4;subst h5;rfl
set_option maxRecDepth 20000 in
theorem funcs{N:Nat}(ih:EqAt N)(ks ls:Tr.Kids)(kv lv:Value)(S S':Nat->Prop)(w:World)(hN:ks.bulk<N+1)(hB:ks.bulk<=4194304)(hk:ay S w kv ks)(hl:ay S' w lv ls) :
 Calls Tryz.prog 74 #[kv,lv,.func (.func 75) #[] #[]] w fun e' w'=>e' = .returned (.bool (eqK ks ls))/\Below w.heap.size w w':=by
 have HK:=yH hk;have HL:=yH hl;have HN:=yH hN;have HB:=yH hB;obtain⟨ao,cap,rfl,_,_,_⟩:=hk;obtain⟨dL,cap2,rfl,_,_,_⟩:=hl;clear hN hB;by_cases hlen:ks.len=ls.len
 ·obtain⟨n,hn⟩:∃n,ks.len=n:=⟨_,rfl⟩;have hn2:ls.len=n:=(by omega);rw[hn,hn2];rw[hn]at HK;rw[hn2]at HL;have Hn:=yH hn;have P6:=yH hn2;clear hlen hn hn2
  go_enter Tryz.func74,Tryz.ntmps74
  go_wp2_with fail
  go_loopw [7,8,9,17] (fun _ _ _ i wr=>∃j:Nat,j<=n/\i = .int .i64 j/\Hid (eqK ks ls=eqK (ks.drop j) (ls.drop j))/\Below w.heap.size w wr) (fun _ _ _ i _=>n-(intOf i).toNat)
  case atStart=>exact⟨0,Nat.zero_le _,rfl,yH (by rw[Tr.Kids.drop_zero,Tr.Kids.drop_zero]),Below.refl _ _⟩
  case round =>
   obtain⟨j,hj,rfl,hq,br⟩:=hrel;by_cases hlt:j<n
   ·obtain⟨a1,p1,v1,zdf,hcm1,zdg⟩:=HK.out;injection v1 with v11 v12 v13;subst v11;subst v13;obtain⟨a2,p2,v2,zdh,hcm2,RG⟩:=HL.out;injection v2 with v21 v22 v23;subst v21;subst v23;clear v12 v22;rcases zdg with h0|⟨sb,off,rfl,hel⟩
    ·have:=Hn.out;rw[h0]at this;simp[Tr.Kids.len]at this;omega
    rcases RG with h0|⟨sb2,P5,rfl,RG⟩
    ·have:=P6.out;rw[h0]at this;simp[Tr.Kids.len]at this;omega
    obtain⟨nm,kd,fQ,tx,sub,r,ve,cap3,hd0,hd1,hSb,g0,g1,g2,g3,g4,hsub,hbk⟩:=(hel.below br).at' (j:=j) (by rw[Hn.out];exact hlt);obtain⟨Zd,kd',Xi,tx',sub',r',ao4,cap4,zbc,qw,zeL,g0',g1',g2',g3',g4',Uc,zdi⟩:=(RG.below br).at' (j:=j) (by rw[P6.out];exact hlt);have e0:(0:Int)<=(j:Int):=Int.natCast_nonneg _;have e1:(j:Int)<(n:Int):=(by omega);have uN:=yH (show sub.bulk<N by have:=HN.out;omega);have Hw:=yH (show sub.bulk<=4194304 by have:=HB.out;omega);have HQ:=yH (show eqK ks ls=((decide (nm=Zd)&&wZ ⟨kd,fQ,tx,sub⟩ ⟨kd',Xi,tx',sub'⟩)&&eqK (ks.drop (j+1)) (ls.drop (j+1))) by
     rw[hq.out,hd0,zbc,hd1,qw];unfold eqK wZ;rw[decide_eq_decide.2 AO,Bool.decide_and,Bool.decide_and])
    have HS:=yH hsub;have HS':=yH Uc;clear hd0 zbc hd1 qw hel RG hbk zdi hsub Uc zdf zdh hcm1 hcm2;have k0:=Lib.cell?_alloc_some (.cells #[.string nm,.int .i64 kd,.bool fQ,.string tx,.slice ve sub.len cap3] 116) g0';have k1:=Lib.cell?_alloc_some (.cells #[.string nm,.int .i64 kd,.bool fQ,.string tx,.slice ve sub.len cap3] 116) g1';have k2:=Lib.cell?_alloc_some (.cells #[.string nm,.int .i64 kd,.bool fQ,.string tx,.slice ve sub.len cap3] 116) g2';have k3:=Lib.cell?_alloc_some (.cells #[.string nm,.int .i64 kd,.bool fQ,.string tx,.slice ve sub.len cap3] 116) g3';have k4:=Lib.cell?_alloc_some (.cells #[.string nm,.int .i64 kd,.bool fQ,.string tx,.slice ve sub.len cap3] 116) g4'
    go_wp2_with fail;refine ae fun w2 hw2=>?_
    obtain⟨b2,x2,y2⟩:=aQ hw2;clear hw2 k0 k1 k2 k3 k4 g0 g1 g2 g3 g4 g0' g1' g2' g3' g4' x2 y2;obtain⟨B,hB⟩:∃B,(decide (nm=Zd)&&wZ ⟨kd,fQ,tx,sub⟩ ⟨kd',Xi,tx',sub'⟩)=B:=⟨_,rfl⟩;rw[hB]at HQ;refine(closure ih nm Zd kd kd' fQ Xi tx tx' sub sub' _ _ S S' w2 uN.out Hw.out (HS.out.below b2) (HS'.out.below b2)).mono ?_;rintro e' w3 ⟨rfl,b3⟩;rw[hB];have B3:Below w.heap.size w w3:=(br.trans (b2.mono br.size)).trans (b3.mono (Nat.le_trans br.size b2.size));clear hB b2 b3;cases B with
    | true =>
     go_wp2_with fail
     go_roundw
     case rel=>exact⟨j+1,by omega,by first|go_num|(rw[Go.IntWalk.wrap64_in _ (by have:=HB.out;have:=ks.jD;have:=Hn.out;omega)];go_num),yH (by rw[HQ.out];rfl),B3⟩
     case measure=>first|(simp[intOf];omega)|(rw[Go.IntWalk.wrap64_in _ (by have:=HB.out;have:=ks.jD;have:=Hn.out;omega)];simp[intOf];omega)
    | false =>
     go_wp2_with fail
     go_ret;exact⟨by rw[HQ.out];rfl,B3⟩
   ·obtain rfl:j=n:=(by omega);have HE:=yH (show eqK ks ls=true by
     rw[hq.out,Tr.Kids.gV ks j (by rw[Hn.out];exact Nat.le_refl _),Tr.Kids.gV ls j (by rw[P6.out];exact Nat.le_refl _)];exact decide_eq_true rfl)
    go_wp2_with fail
    go_ret;exact⟨by rw[HE.out];rfl,br⟩
 ·have hne:eqK ks ls=false:=decide_eq_false (fun h=>hlen (by rw[h]));rw[hne];have tt:((ks.len:Int) != (ls.len:Int))=true:=(by rw[bne_iff_ne];omega);clear hne hlen
  go_enter Tryz.func74,Tryz.ntmps74
  go_wp2_with fail
  go_ret;exact⟨rfl,Below.refl _ _⟩

set_option maxRecDepth 20000 in
theorem eqN : ∀ N, EqAt N := by
  intro N
  induction N with
  | zero => intro k l e f t u ks ls kv lv S S' w h; omega
  | succ N ih =>
    intro k l e f t u ks ls kv lv S S' w hN hB hk hl
    have HK := yH hk
    have HL := yH hl
    have HN := yH hN
    have HB := yH hB
    obtain ⟨ao, cap, rfl, _, _, _⟩ := hk
    obtain ⟨dL, cap2, rfl, _, _, _⟩ := hl
    clear hN hB
    have hbad : ¬ (k = l ∧ e = f ∧ t = u) → wZ ⟨k, e, t, ks⟩ ⟨l, f, u, ls⟩ = false := fun h => decide_eq_false (fun h2 => h (by injection h2 with h3 h4 h5 h6; exact ⟨h3, h4, h5⟩))
    by_cases hkl : k = l
    · subst hkl
      have q1 : (k != k) = false := by simp
      by_cases hef : e = f
      · subst hef
        have q2 : (e != e) = false := by simp
        by_cases htu : t = u
        · subst htu
          have q3 : (t.toList == t.toList) = true := by simp
          have HE := yH (show wZ ⟨k, e, t, ks⟩ ⟨k, e, t, ls⟩ = eqK ks ls by
            unfold wZ eqK
            rw [decide_eq_decide]
            exact ⟨fun h => by injection h, fun h => by rw [h]⟩)
          clear hbad
          go_enter Tryz.func24, Tryz.ntmps24
          go_wp2_with fail
          refine ae fun w1 hw1 => ?_
          obtain ⟨b1, x1, y1⟩ := aQ hw1
          clear hw1
          refine (funcs ih ks ls _ _ S S' w1 HN.out HB.out (HK.out.below b1) (HL.out.below b1)).mono ?_
          rintro e' w2 ⟨rfl, b2⟩
          have B := b1.trans (b2.mono b1.size)
          go_wp2_with fail
          go_ret
          exact ⟨by rw [HE.out]; rfl, B⟩
        · have q3 : (t.toList == u.toList) = false := by rw [bytes_beq]; exact decide_eq_false htu
          have HE := yH (hbad (fun h => htu h.2.2))
          clear hbad htu
          go_enter Tryz.func24, Tryz.ntmps24
          go_wp2_with fail
          go_ret
          exact ⟨by rw [HE.out]; rfl, ((Below.refl _ w).alloc (Nat.le_refl _) _).alloc (by simp) _⟩
      · have HE := yH (hbad (fun h => hef h.2.1))
        clear hbad
        cases e <;> cases f <;> first
          | exact absurd rfl hef
          | (clear hef
             go_enter Tryz.func24, Tryz.ntmps24
             go_wp2_with fail
             go_ret
             exact ⟨by rw [HE.out]; rfl, ((Below.refl _ w).alloc (Nat.le_refl _) _).alloc (by simp) _⟩)
    · have q1 : (k != l) = true := by simpa using hkl
      have HE := yH (hbad (fun h => hkl h.1))
      clear hbad hkl
      go_enter Tryz.func24, Tryz.ntmps24
      go_wp2_with fail
      go_ret
      exact ⟨by rw [HE.out]; rfl, ((Below.refl _ w).alloc (Nat.le_refl _) _).alloc (by simp) _⟩
theorem FM(S S':Nat->Prop)(T U:Tree)(kv lv:Value)(w:World)(hk:ay S w kv T.kids)(hl:ay S' w lv U.kids)(hb:T.bulk<=4194304) :
 Calls Tryz.prog 24 #[Sum.iw T kv,Sum.iw U lv] w fun e w'=>e = .returned (.bool (wZ T U))/\Below w.heap.size w w':=by
 obtain⟨k,ex,t,ks⟩:=T;obtain⟨l,f,u,ls⟩:=U;exact eqN _ k l ex f t u ks ls kv lv S S' w (Nat.lt_succ_self _) (by simp only[Tree.bulk]at hb;omega) hk hl
end Eq
set_option linter.unusedVariables false
namespace Eq
open Go.RowKit
theorem RH(w:World)(v1 v2:Value)(l1 l2:List ByteArray)(h1:Texts.Reads w v1 l1)(h2:Texts.Reads w v2 l2) :
 Calls Tryz.prog 120 #[v1,v2] w fun e w'=>e = .returned (.bool (decide (l1=l2)))/\Lb.Sm w w':=by
 by_cases hlen:l1.length=l2.length
 ·rcases h1 with⟨ao,cap,rfl,rfl⟩|⟨b,off,cap,rfl,hm,hc⟩
  ·obtain rfl:l2 = []:=List.eq_nil_of_length_eq_zero (by simpa using hlen.symm);obtain⟨dL,cap2,rfl⟩:=h2.shape;clear h2 hlen;simp only[List.length_nil]
   go_enter Tryz.func120,Tryz.ntmps120
   go_wp2
   go_loopw [5,13] (fun _ i wr=>i = .int .i64 0/\Hid (w=wr)) (fun _ _ _=>0)
   case atStart=>exact⟨rfl,yH rfl⟩
   case round =>
    obtain⟨rfl,hw⟩:=hrel;obtain rfl:=hw.out
    go_wp2
    go_ret;exact⟨rfl,Lb.Sm.refl _⟩
  rcases h2 with⟨ao,cap2,rfl,rfl⟩|⟨b2,P5,cap2,rfl,hm2,hc2⟩
  ·obtain rfl:l1 = []:=List.eq_nil_of_length_eq_zero (by simpa using hlen);clear hc hlen hm;simp only[List.length_nil]
   go_enter Tryz.func120,Tryz.ntmps120
   go_wp2
   go_loopw [5,13] (fun _ i wr=>i = .int .i64 0/\Hid (w=wr)) (fun _ _ _=>0)
   case atStart=>exact⟨rfl,yH rfl⟩
   case round =>
    obtain⟨rfl,hw⟩:=hrel;obtain rfl:=hw.out
    go_wp2
    go_ret;exact⟨rfl,Lb.Sm.refl _⟩
  obtain⟨n,hn⟩:∃n,l1.length=n:=⟨_,rfl⟩;have hn2:l2.length=n:=(by omega);rw[hn,hn2];have Hn:=yH hn;have P6:=yH hn2;have Hc:=yH hc;have Hc2:=yH hc2;rw[hn]at hm;clear hlen hn hn2 hc hc2 hm2
  go_enter Tryz.func120,Tryz.ntmps120
  go_wp2
  go_loopw [5,13] (fun _ i wr=>∃k:Nat,k<=n/\i = .int .i64 k/\Hid (l1.take k=l2.take k)/\Lb.Sm w wr) (fun _ i _=>n-(intOf i).toNat)
  case atStart=>exact⟨0,by omega,rfl,yH rfl,Lb.Sm.refl _⟩
  case round =>
   obtain⟨k,hk,rfl,htk,hsm⟩:=hrel;by_cases hlt:k<n
   ·have e0:(0:Int)<=(k:Int):=Int.natCast_nonneg _;have e1:(k:Int)<(n:Int):=(by omega);have k1:k<l1.length:=(by rw[Hn.out];exact hlt);have k2:k<l2.length:=(by rw[P6.out];exact hlt);have g1:wr.cell? ⟨b,off+k,none⟩=some (.string l1[k]):=(by rw[hsm.cell];exact Hc.out k k1);have g2:wr.cell? ⟨b2,P5+k,none⟩=some (.string l2[k]):=(by rw[hsm.cell];exact Hc2.out k k2);by_cases he:l1[k]=l2[k]
    ·have tt:(l1[k].toList==l2[k].toList)=true:=(by rw[he];simp);have hnew:l1.take (k+1)=l2.take (k+1):=(by rw[List.take_succ_eq_append_getElem k1,List.take_succ_eq_append_getElem k2,htk.out,he]);have UU:=yH hnew;clear he hnew
     go_wp2
     go_quiet (fail)
     go_wp2
     go_roundw
     case rel=>exact⟨k+1,by omega,by go_num,UU,hsm.trans (Lb.Sm.drewN _ _)⟩
     case measure=>simp[intOf];omega
    ·have tt:(l1[k].toList==l2[k].toList)=false:=by
      rw[Lib.toList_data,Lib.toList_data]
      simpa using fun e=>he (Lb.str_eq e)
     have hne:decide (l1=l2)=false:=(by rw[decide_eq_false_iff_not];rintro rfl;exact he rfl);have UW:=yH hne;clear he hne
     go_wp2
     go_quiet (fail)
     go_wp2
     go_ret;exact⟨by rw[UW.out];rfl,hsm.trans (Lb.Sm.drewN _ _)⟩
   ·obtain rfl:k=n:=(by omega);have hall:decide (l1=l2)=true:=(by rw[decide_eq_true_iff];have h1:l1.take k=l1:=List.take_of_length_le (by rw[Hn.out];exact Nat.le_refl _);have h2:l2.take k=l2:=List.take_of_length_le (by rw[P6.out];exact Nat.le_refl _);rw[←h1,←h2];exact htk.out);have UX:=yH hall;clear hall
    go_wp2
    go_ret;exact⟨by rw[UX.out];rfl,hsm⟩
 ·have hne:decide (l1=l2)=false:=(by rw[decide_eq_false_iff_not];rintro rfl;exact hlen rfl);have UW:=yH hne;have m1:=h1.le;have m2:=h2.le;obtain⟨ao1,c1,rfl⟩:=h1.shape;obtain⟨dL,c2,rfl⟩:=h2.shape;have tt:((l1.length:Int) != (l2.length:Int))=true:=(by rw[bne_iff_ne];omega);clear h1 h2 hne hlen
  go_enter Tryz.func120,Tryz.ntmps120
  go_wp2
  go_ret;exact⟨by rw[UW.out];rfl,Lb.Sm.refl _⟩
end Eq
end Go.Proofs.YtmmmghpimdfleaaGreatDoor
