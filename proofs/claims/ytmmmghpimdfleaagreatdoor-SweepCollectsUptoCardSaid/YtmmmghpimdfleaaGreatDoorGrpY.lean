/-
  The ak Equal of two trees.
  The ak Same of two records; alike.
  The law's alike of two stores that hold the same records.
-/
import Derived.Test.YtmmmghpimdfleaaGreatDoorTk
import Derived.Test.YtmmmghpimdfleaaGreatDoorGrpM
import Derived.Test.YtmmmghpimdfleaaGreatDoorGrpA
import Derived.Deep.LoopGhost
import Derived.Test.YtmmmghpimdfleaaGreatDoorGrpP
import Derived.Test.YtmmmghpimdfleaaGreatDoorGrpO
import Derived.Test.YtmmmghpimdfleaaGreatDoorStock
set_option linter.unusedVariables false
set_option maxHeartbeats 8000000
set_option linter.unusedSimpArgs false
namespace Go.Proofs.YtmmmghpimdfleaaGreatDoor
namespace R06
open Go.RowKit Mem Tr
open Go.Proofs.YtmmmghpimdfleaaGreatDoor.Eq (wZ bytes_beq)
def EqAt(N:Nat):Prop:=∀(k l:Int) (e f:Bool) (t u:ByteArray) (ks ls:Tr.Kids) (kv lv:Value) (S S':Nat->Prop) (w:World),ks.bulk<N->ks.bulk<=4194304->ay S w kv ks->ay S' w lv ls ->
 Calls Tryz.prog 58 #[.agg #[.int .i64 k,.bool e,.string t,kv],.agg #[.int .i64 l,.bool f,.string u,lv]] w fun e' w'=>e' = .returned (.bool (wZ ⟨k,e,t,ks⟩ ⟨l,f,u,ls⟩))/\Below w.heap.size w w'
/-- the same first k entries -/
theorem DU{ks ls:Tr.Kids}(h:ks.len=ls.len)(he:ks.take ks.len=ls.take ks.len):ks=ls:=by
 rw[ks.jL _ (Nat.le_refl _)]at he;rw[h,ls.jL _ (Nat.le_refl _)]at he;exact he
/-- an entry in memory -/
theorem Ik{S:Nat->Prop}{w:World}{v:Value}{ks:Tr.Kids}(h:ay S w v ks){j:Nat}(hj:j<ks.len) :
 ∃b off cap0 nm kd e t sub r ao cap,v = .slice (some ⟨b,off,none⟩) ks.len cap0/\ks.drop j = .cons nm kd e t sub r/\ks.drop (j+1)=r/\w.cell? ⟨b,off+j*5,none⟩=some (.string nm)/\w.cell? ⟨b,off+j*5+1,none⟩=some (.int .i64 kd)/\w.cell? ⟨b,off+j*5+2,none⟩=some (.bool e) /\
  w.cell? ⟨b,off+j*5+3,none⟩=some (.string t)/\w.cell? ⟨b,off+j*5+4,none⟩=some (.slice ao sub.len cap)/\ay S w (.slice ao sub.len cap) sub/\nm.size+t.size+8+sub.bulk+r.bulk<=ks.bulk:=by
 obtain⟨ao,cap0,rfl,hl,hm,hk⟩:=h;rcases hk with rfl|⟨b,off,rfl,hel⟩
 ·simp[Tr.Kids.len]at hj
 ·obtain⟨nm,kd,e,t,sub,r,ao,cap,h1,h2,_,h3,h4,h5,h6,h7,h8,h9⟩:=hel.at' hj;exact⟨b,off,cap0,nm,kd,e,t,sub,r,ao,cap,rfl,h1,h2,h3,h4,h5,h6,h7,h8,h9⟩
set_option maxRecDepth 20000 in
theorem loop{N:Nat}(ih:EqAt N)(k:Int)(e:Bool)(t:ByteArray)(ks ls:Tr.Kids)(kv lv:Value)(S S':Nat->Prop)(w:World)(hN:ks.bulk<N+1)(hB:ks.bulk<=4194304)(hk:ay S w kv ks)(hl:ay S' w lv ls)(hlen:ks.len=ls.len) :
 Calls Tryz.prog 58 #[.agg #[.int .i64 k,.bool e,.string t,kv],.agg #[.int .i64 k,.bool e,.string t,lv]] w fun e' w'=>e' = .returned (.bool (wZ ⟨k,e,t,ks⟩ ⟨k,e,t,ls⟩))/\Below w.heap.size w w':=by
 have HK:=yH hk;have HL:=yH hl;have HN:=yH hN;have HB:=yH hB;have hnb:ks.len*8<=ks.bulk:=ks.jD;obtain⟨n,hn⟩:∃n,ks.len=n:=⟨_,rfl⟩;have hn2:ls.len=n:=(by omega);have hn8:n<=4194304:=(by omega);obtain⟨ao,cap,rfl,_,_,_⟩:=hk;obtain⟨dL,cap2,rfl,_,_,_⟩:=hl;rw[hn]at HK ⊢;rw[hn2]at HL ⊢;have HN1:=yH hn;have oN:=yH hn2;have q1:(k != k)=false:=(by simp);have q2:(e != e)=false:=(by simp);have q3:(t.toList==t.toList)=true:=(by simp);have HE:=yH (show wZ ⟨k,e,t,ks⟩ ⟨k,e,t,ls⟩=decide (ks=ls) by
  unfold wZ;rw[decide_eq_decide];exact⟨fun h=>by injection h,fun h=>by rw[h]⟩)
 clear hn hn2 hlen hnb hN hB
 go_enter Tryz.func58,Tryz.ntmps58
 go_wp2_with fail;obtain⟨w1,hw1⟩:∃W,(w.alloc (.cells #[.int .i64 k,.bool e,.string t,.slice ao n cap] 26)).alloc (.cells #[.int .i64 k,.bool e,.string t,.slice dL n cap2] 26)=W:=⟨_,rfl⟩;rw[hw1];obtain⟨b1,x1,y1⟩:=aQ hw1;have X1:=yH x1;have Y1:=yH y1;clear hw1 x1 y1
 go_loopw [5,6] (fun i _ wr=>∃j:Nat,j<=n/\i = .int .i64 j/\Hid (ks.take j=ls.take j)/\Below w1.heap.size w1 wr) (fun i _ _=>n-(intOf i).toNat)
 case atStart=>exact⟨0,Nat.zero_le _,rfl,yH (by rw[Kids.take_zero,Kids.take_zero]),Below.refl _ _⟩
 case round =>
  obtain⟨j,hj,rfl,hall,br⟩:=hrel;have BR:=b1.trans (br.mono b1.size);have a3:wr.cell? ⟨w.heap.size,3,none⟩=some (.slice ao n cap):=(X1.out.below br).cell 3;have c3:wr.cell? ⟨w.heap.size+1,3,none⟩=some (.slice dL n cap2):=(Y1.out.below br).cell 3;have e0:(0:Int)<=(j:Int):=Int.natCast_nonneg _;by_cases hlt:j<n
  ·have e1:(j:Int)<(n:Int):=(by omega);obtain⟨bA,oA,cA,na,ka,ea,ta,sa,ra,aA,pA,hvA,dA,dA1,f0,f1,f2,f3,f4,hsA,hbA⟩:=Ik (HK.out.below BR) (j:=j) (by rw[HN1.out];exact hlt);obtain⟨bC,oC,cC,nc,kc,ec,tc,sc,rc',aC,pC,hvC,dC,dC1,g0,g1,g2,g3,g4,hsC,hbC⟩:=Ik (HL.out.below BR) (j:=j) (by rw[oN.out];exact hlt);injection hvA with hA1 hA2 hA3;injection hvC with hC1 hC2 hC3;subst hA1 hC1;clear hA2 hA3 hC2 hC3;have HTA:=yH (Kids.take_succ ks j dA);have HTC:=yH (Kids.take_succ ls j dC);have HDA:=yH dA;have VL:=yH dC;have HSA:=yH hsA;have Hw:=yH hsC;have hbs:sa.bulk<N/\sa.bulk<=4194304:=(by have:=HN.out;have:=HB.out;omega);clear dA dA1 dC dC1 hsA hsC hbA hbC;by_cases hnm:na=nc
   ·subst hnm;have tt:(na.toList==na.toList)=true:=(by simp)
    go_wp2_with fail
    go_quiet (fail)
    go_wp2_with fail;generalize hW2:wr.drewN _=W2;have dn:Dn wr W2:=⟨_,hW2.symm⟩;have B2:=br.trans (dn.below.mono br.size);have BR2:=BR.trans (dn.below.mono BR.size);have hS0:∀w',Below W2.heap.size W2 w'->w'.cell? ⟨w.heap.size,3,none⟩=some (.slice (some ⟨bA,oA,none⟩) n cap)/\w'.cell? ⟨w.heap.size+1,3,none⟩=some (.slice (some ⟨bC,oC,none⟩) n cap2)/\w'.cell? ⟨bA,oA+j*5+1,none⟩=some (.int .i64 ka)/\w'.cell? ⟨bA,oA+j*5+2,none⟩=some (.bool ea)/\w'.cell? ⟨bA,oA+j*5+3,none⟩=some (.string ta)/\w'.cell? ⟨bA,oA+j*5+4,none⟩=some (.slice aA sa.len pA)/\w'.cell? ⟨bC,oC+j*5+1,none⟩=some (.int .i64 kc)/\w'.cell? ⟨bC,oC+j*5+2,none⟩=some (.bool ec)/\w'.cell? ⟨bC,oC+j*5+3,none⟩=some (.string tc)/\w'.cell? ⟨bC,oC+j*5+4,none⟩=some (.slice aC sc.len pC):=fun w' hb=>by
     have hz:=br.size;have l1:=X1.out.lt;have l2:=Y1.out.lt;have hd:W2.heap.size=wr.heap.size:=(by rw[dn.heap]);have k:∀(p:Addr) (v:Value),wr.cell? p=some v->w'.cell? p=some v:=fun p v h=>by
      rw[hb.cell (by rw[hd];exact World.block_lt_of_cell? wr _ h),dn.cell,h]
     exact⟨k _ _ a3,k _ _ c3,k _ _ f1,k _ _ f2,k _ _ f3,k _ _ f4,k _ _ g1,k _ _ g2,k _ _ g3,k _ _ g4⟩
    have hS:=hS0 W2 (Below.refl _ _);have hSd:=hS0 W2.drew (Below.refl _ _).drew;clear hW2 a3 c3 f0 f1 f2 f3 f4 g0 g1 g2 g3 g4
    go_region_held3 (fun w'=>w'.cell? ⟨w.heap.size,3,none⟩=some (.slice (some ⟨bA,oA,none⟩) n cap)/\w'.cell? ⟨w.heap.size+1,3,none⟩=some (.slice (some ⟨bC,oC,none⟩) n cap2)/\w'.cell? ⟨bA,oA+j*5+1,none⟩=some (.int .i64 ka)/\w'.cell? ⟨bA,oA+j*5+2,none⟩=some (.bool ea)/\w'.cell? ⟨bA,oA+j*5+3,none⟩=some (.string ta)/\w'.cell? ⟨bA,oA+j*5+4,none⟩=some (.slice aA sa.len pA)/\w'.cell? ⟨bC,oC+j*5+1,none⟩=some (.int .i64 kc)/\w'.cell? ⟨bC,oC+j*5+2,none⟩=some (.bool ec)/\w'.cell? ⟨bC,oC+j*5+3,none⟩=some (.string tc)/\w'.cell? ⟨bC,oC+j*5+4,none⟩=some (.slice aC sc.len pC)) (first|assumption|exact hSd|exact hS1|go_keep) ((go_at_call 58;refine(ih ka kc ea ec ta tc sa sc _ _ S S' _ hbs.1 hbs.2 (HSA.out.below (dn.below.trans ((Below.refl _ W2).drew))) (Hw.out.below (dn.below.trans ((Below.refl _ W2).drew)))).mono ?_;rintro e9 w9 ⟨rfl,b9⟩;have b9':=Copy.ax b9;have hS1:=hS0 w9 b9'))
    have B9:=B2.trans (b9'.mono B2.size);obtain⟨T,hT⟩:∃T,wZ ⟨ka,ea,ta,sa⟩ ⟨kc,ec,tc,sc⟩=T:=⟨_,rfl⟩;rw[hT];have HT:=yH hT;clear hT hS hSd hS1 hS0;cases T with
    | true =>
     have he:=of_decide_eq_true HT.out;have bF:=yH (show ks.take (j+1)=ls.take (j+1) by
      rw[HTA.out,HTC.out,hall.out];injection he with h1 h2 h3 h4;rw[h1,h2,h3,h4])
     clear he
     go_wp2_with fail
     go_roundw
     case rel=>exact⟨j+1,by omega,by go_num,bF,B9⟩
     case measure=>simp[intOf];omega
    | false =>
     have hne:ks≠ls:=fun h=>by
      have h1:=HDA.out;rw[h,VL.out]at h1;injection h1 with _ h2 h3 h4 h5 _;have:=of_decide_eq_false HT.out;exact this (by rw[h2,h3,h4,h5])
     have Ko:=yH (show decide (ks=ls)=false from decide_eq_false hne);clear hne
     go_wp2_with fail
     go_ret;exact⟨by rw[HE.out,Ko.out];rfl,b1.trans (B9.mono b1.size)⟩
   ·have tt:(na.toList==nc.toList)=false:=(by rw[bytes_beq];exact decide_eq_false hnm);have hne:ks≠ls:=fun h=>by
     have h1:=HDA.out;rw[h,VL.out]at h1;injection h1 with h2 _ _ _ _ _;exact hnm h2.symm
    have Ko:=yH (show decide (ks=ls)=false from decide_eq_false hne);clear hne hnm
    go_wp2_with fail
    go_quiet (fail)
    go_wp2_with fail
    go_ret;exact⟨by rw[HE.out,Ko.out];rfl,(Dn.drewN wr _).sm.below BR⟩
  ·obtain rfl:j=n:=(by omega);have Zg:=yH (show decide (ks=ls)=true from decide_eq_true (DU (by rw[HN1.out,oN.out]) (by rw[HN1.out];exact hall.out)))
   go_wp2_with fail
   go_ret;exact⟨by rw[HE.out,Zg.out];rfl,BR⟩

set_option maxRecDepth 20000 in
theorem eqN : ∀ N, EqAt N := by
  intro N
  induction N with
  | zero => intro k l e f t u ks ls kv lv S S' w h; omega
  | succ N ih =>
    intro k l e f t u ks ls kv lv S S' w hN hB hk hl
    have hbad : ¬ (k = l ∧ e = f ∧ t = u ∧ ks.len = ls.len) → wZ ⟨k, e, t, ks⟩ ⟨l, f, u, ls⟩ = false := fun h => decide_eq_false (fun h2 => h (by injection h2 with h3 h4 h5 h6; exact ⟨h3, h4, h5, by rw [h6]⟩))
    by_cases hall : k = l ∧ e = f ∧ t = u ∧ ks.len = ls.len
    · obtain ⟨rfl, rfl, rfl, hlen⟩ := hall
      exact loop ih k e t ks ls kv lv S S' w hN hB hk hl hlen
    · have HE := yH (hbad hall)
      obtain ⟨ao, cap, rfl, _, _, _⟩ := hk
      obtain ⟨dL, cap2, rfl, _, _, _⟩ := hl
      obtain ⟨n, hn⟩ : ∃ n, ks.len = n := ⟨_, rfl⟩
      obtain ⟨m, hm⟩ : ∃ n, ls.len = n := ⟨_, rfl⟩
      rw [hn, hm] at hall ⊢
      clear hbad hn hm hN hB ih
      by_cases hkl : k = l
      · subst hkl
        have q1 : (k != k) = false := by simp
        by_cases htu : t = u
        · subst htu
          have q3 : (t.toList == t.toList) = true := by simp
          by_cases hef : e = f
          · subst hef
            have q2 : (e != e) = false := by simp
            have q4 : ((n : Int) != (m : Int)) = true := by
              rw [bne_iff_ne]
              intro h
              exact hall ⟨rfl, rfl, rfl, by omega⟩
            clear hall
            go_enter Tryz.func58, Tryz.ntmps58
            go_wp2_with fail
            go_ret
            exact ⟨by rw [HE.out]; rfl, ((Below.refl _ w).alloc (Nat.le_refl _) _).alloc (by simp) _⟩
          · clear hall
            cases e <;> cases f <;> first
              | exact absurd rfl hef
              | (clear hef
                 go_enter Tryz.func58, Tryz.ntmps58
                 go_wp2_with fail
                 go_ret
                 exact ⟨by rw [HE.out]; rfl, ((Below.refl _ w).alloc (Nat.le_refl _) _).alloc (by simp) _⟩)
        · have q3 : (t.toList == u.toList) = false := by rw [bytes_beq]; exact decide_eq_false htu
          clear hall htu
          cases e <;> cases f <;>
            (go_enter Tryz.func58, Tryz.ntmps58
             go_wp2_with fail
             go_ret
             exact ⟨by rw [HE.out]; rfl, ((Below.refl _ w).alloc (Nat.le_refl _) _).alloc (by simp) _⟩)
      · have q1 : (k != l) = true := by simpa using hkl
        clear hall hkl
        go_enter Tryz.func58, Tryz.ntmps58
        go_wp2_with fail
        go_ret
        exact ⟨by rw [HE.out]; rfl, ((Below.refl _ w).alloc (Nat.le_refl _) _).alloc (by simp) _⟩
theorem FM(S S':Nat->Prop)(T U:Tree)(kv lv:Value)(w:World)(hk:ay S w kv T.kids)(hl:ay S' w lv U.kids)(hb:T.bulk<=4194304) :
 Calls Tryz.prog 58 #[Sum.iw T kv,Sum.iw U lv] w fun e w'=>e = .returned (.bool (wZ T U))/\Below w.heap.size w w':=by
 obtain⟨k,ex,t,ks⟩:=T;obtain⟨l,f,u,ls⟩:=U;exact eqN _ k l ex f t u ks ls kv lv S S' w (Nat.lt_succ_self _) (by simp only[Tree.bulk]at hb;omega) hk hl
end R06
set_option linter.unusedVariables false
namespace St
open Go.RowKit Mem Tr
open Go.Proofs.YtmmmghpimdfleaaGreatDoor.Own

set_option maxRecDepth 20000 in
theorem MR (S S' : Nat → Prop) (a b : Rec) (ca cb : List Value) (w : World) (ha : aT S w ca a) (hb : aT S' w cb b) (hk : a.bulk ≤ 4194304) :
    Calls Tryz.prog 29 #[.agg ca.toArray, .agg cb.toArray] w fun e w' => e = .returned (.bool (Jd a b)) ∧ Below w.heap.size w w' := by
  have hla := ha.length
  have hlb := hb.length
  obtain ⟨kv, rv, hca, hha, hka, hra⟩ := ha
  obtain ⟨kv', rv', hcb, hhb, hkb, hrb⟩ := hb
  have HKA := yH hka
  have HRA := yH hra
  have HKB := yH hkb
  have kL := yH hrb
  have HCA := yH hca.symm
  have QW := yH hcb.symm
  obtain ⟨ao, cap, rfl, _, _, _⟩ := hka
  obtain ⟨dL, cap2, rfl, _, _, _⟩ := hra
  obtain ⟨ao', cap', rfl, _, _, _⟩ := hkb
  obtain ⟨Xo, Ou, rfl, _, _, _⟩ := hrb
  obtain ⟨q0, q1, q2, q3, q4, q5⟩ := fJ hca.symm hla hha
  obtain ⟨p0, p1, p2, p3, p4, p5⟩ := fJ hcb.symm hlb hhb
  have HQ := yH (fun w => Ot a.hash b.hash hha hhb w)
  obtain ⟨RA, Ht⟩ : ∃ RC, Lib.byteCells a.hash = RC := ⟨_, rfl⟩
  obtain ⟨RU, Uf⟩ : ∃ RC, Lib.byteCells b.hash = RC := ⟨_, rfl⟩
  have wM : RA.length = 32 := by rw [← Ht, Lib.byteCells_length, hha]
  have FN : RU.length = 32 := by rw [← Uf, Lib.byteCells_length, hhb]
  have zdD := yH Ht
  have zdE := yH Uf
  rw [Ht, Uf] at HQ
  have hu := Tryz.underlying29
  have hbt : a.tree.bulk ≤ 4194304 := by unfold Rec.bulk at hk; omega
  clear hca hcb Ht Uf
  go_enter Tryz.func29, Tryz.ntmps29
  go_wp2_with fail
  refine ae fun w1 hw1 => ?_
  obtain ⟨B1, x1, y1⟩ := aQ hw1
  have XA := yH (show RB w1 w.heap.size a (.slice ao a.tree.kids.len cap) (.slice dL a.refs.length cap2) from ⟨by rw [HCA.out]; exact x1, hha⟩)
  have XB := yH (show RB w1 (w.heap.size + 1) b (.slice ao' b.tree.kids.len cap') (.slice Xo b.refs.length Ou) from ⟨by rw [QW.out]; exact y1, hhb⟩)
  clear hw1 x1 y1 q0 q1 q2 q3 q4 q5 p0 p1 p2 p3 p4 p5
  refine (R06.FM S S' a.tree b.tree _ _ w1 (HKA.out.below B1) (HKB.out.below B1) hbt).mono ?_
  rintro e w2 ⟨rfl, b2⟩
  have B2 := B1.trans (b2.mono B1.size)
  have XA2 := yH (XA.out.below b2)
  have XB2 := yH (XB.out.below b2)
  have g5 := XA2.out.c5
  have j5 := XB2.out.c5
  have YD := yH (show Jd a b = (decide (a.path = b.path) && (decide (a.hash = b.hash) && (decide (a.size = b.size) && (Eq.wZ a.tree b.tree && decide (a.refs = b.refs))))) by
    unfold Jd Eq.wZ
    rw [← Bool.decide_and, ← Bool.decide_and, ← Bool.decide_and, ← Bool.decide_and, decide_eq_decide]
    exact rec_eq)
  obtain ⟨T, hT⟩ : ∃ T, Eq.wZ a.tree b.tree = T := ⟨_, rfl⟩
  rw [hT] at YD ⊢
  clear hT
  go_wp2_with fail
  refine (Texts.texts w2 _ _ a.refs b.refs (HRA.out.below B2).reads (kL.out.below B2).reads).mono ?_
  rintro e w3 ⟨rfl, sm⟩
  obtain ⟨R, hR⟩ : ∃ R, decide (a.refs = b.refs) = R := ⟨_, rfl⟩
  rw [hR] at YD ⊢
  have B3 : Below w.heap.size w w3 := sm.below B2
  have b3 : Below w2.heap.size w2 w3 := sm.below (Below.refl _ _)
  have XA3 := XA2.out.below b3
  have XB3 := XB2.out.below b3
  have a0 := XA3.c0
  have a38 := XA3.G8
  have c0 := XB3.c0
  have G8 := XB3.G8
  have r1 := XA3.hash
  have r2 := XB3.hash
  rw [zdD.out] at r1
  rw [zdE.out] at r2
  have tp : (a.path.toList == b.path.toList) = decide (a.path = b.path) := Eq.bytes_beq
  have hq := fun w => HQ.out w
  have th : (a.hash == b.hash) = decide (a.hash = b.hash) := by rw [Bool.eq_iff_iff]; simp
  have ts : (a.size == b.size) = decide (a.size = b.size) := by rw [Bool.eq_iff_iff]; simp
  rw [th] at hq
  obtain ⟨P, hP⟩ : ∃ P, decide (a.path = b.path) = P := ⟨_, rfl⟩
  obtain ⟨H, hH⟩ : ∃ P, decide (a.hash = b.hash) = P := ⟨_, rfl⟩
  obtain ⟨Z, hZ⟩ : ∃ P, decide (a.size = b.size) = P := ⟨_, rfl⟩
  rw [hP, hH, hZ] at YD
  rw [hP] at tp
  rw [hH] at hq
  rw [hZ] at ts
  clear hP hH hZ hR g5 j5 th XA3 XB3
  cases P with
  | false =>
    go_wp2_with (first
      | (refine aI (by first | rfl | simp [Region.wanted, yielded]) 29 _ (by rfl) w.heap.size 6 (by rfl) RA _ r1 hu rfl (by rw [wM]; kernel_rfl) ?_)
      | (refine aI (by first | rfl | simp [Region.wanted, yielded]) 29 _ (by rfl) (w.heap.size + 1) 6 (by rfl) RU _ r2 hu rfl (by rw [FN]; kernel_rfl) ?_))
    go_ret
    exact ⟨by rw [YD.out]; rfl, B3⟩
  | true =>
    cases H with
    | false =>
      go_wp2_with (first
        | (refine aI (by first | rfl | simp [Region.wanted, yielded]) 29 _ (by rfl) w.heap.size 6 (by rfl) RA _ r1 hu rfl (by rw [wM]; kernel_rfl) ?_)
        | (refine aI (by first | rfl | simp [Region.wanted, yielded]) 29 _ (by rfl) (w.heap.size + 1) 6 (by rfl) RU _ r2 hu rfl (by rw [FN]; kernel_rfl) ?_))
      go_ret
      exact ⟨by rw [YD.out]; rfl, B3⟩
    | true =>
      cases Z <;> cases T <;> cases R <;>
      (go_wp2_with (first
        | (refine aI (by first | rfl | simp [Region.wanted, yielded]) 29 _ (by rfl) w.heap.size 6 (by rfl) RA _ r1 hu rfl (by rw [wM]; kernel_rfl) ?_)
        | (refine aI (by first | rfl | simp [Region.wanted, yielded]) 29 _ (by rfl) (w.heap.size + 1) 6 (by rfl) RU _ r2 hu rfl (by rw [FN]; kernel_rfl) ?_))
       go_ret
       exact ⟨by rw [YD.out]; rfl, B3⟩)
end St
set_option linter.unusedVariables false
namespace St
open Go.RowKit Mem Tr
open Go.Proofs.YtmmmghpimdfleaaGreatDoor.Own
theorem lu{w2 W:World}{Z:Array Value}{T:TypeId}{cs:List Value}(hW:(w2.alloc (.cells Z T)).setCells w2.heap.size 0 cs=W)(hz:Z.size=cs.length):Bx W w2.heap.size cs.toArray T:=by
 obtain⟨zs,hb,hs⟩:=bH cs 0 _ (Bx.new w2 Z T);have hr:=aZ hW hz;rw[hW]at hb;have e:zs=cs.toArray:=by
  apply Array.ext
  ·simp;omega
  ·intro j h1 h2;have hj:j<cs.length:=(by simpa using h2);have h3:=hr j cs[j] (List.getElem?_eq_getElem hj);rw[Nat.zero_add,hb.cell,Array.getElem?_eq_getElem h1]at h3
   simpa using Option.some.inj h3
 rw[←e];exact hb
theorem fD{w w':World}{b o:Nat}{cs:List Value}(h:w.rangeAt b o cs)(hb:Below w.heap.size w w'):w'.rangeAt b o cs:=fun j u hj =>
 (hb.cell (p:=⟨b,o+j,none⟩) (World.block_lt_of_cell? w _ (h j u hj))).trans (h j u hj)
end St
end Go.Proofs.YtmmmghpimdfleaaGreatDoor
