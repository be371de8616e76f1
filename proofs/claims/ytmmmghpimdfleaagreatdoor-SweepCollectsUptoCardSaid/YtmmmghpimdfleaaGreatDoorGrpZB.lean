/-
  depotlaw19.Ir: a store that takes these records in.
  depotlaw19.awake: of two paths the one that no root reaches is taken out.
  depotlaw19.whole and all (printed by tools/zb8.py).
  What a sweep is given, as an argument of a law.
-/
import Derived.Test.YtmmmghpimdfleaaGreatDoorTk
import Derived.Test.YtmmmghpimdfleaaGreatDoorStock
import Derived.Test.YtmmmghpimdfleaaGreatDoorGrpW
import Derived.Test.YtmmmghpimdfleaaGreatDoorGrpZA
import Derived.Test.YtmmmghpimdfleaaGreatDoorGrpY
import Derived.Test.YtmmmghpimdfleaaGreatDoorWOffs
import Derived.Test.YtmmmghpimdfleaaGreatDoorOpen
set_option linter.unusedVariables false
set_option maxHeartbeats 8000000
set_option linter.unusedSimpArgs false
namespace Go.Proofs.YtmmmghpimdfleaaGreatDoor
namespace St
open Go.RowKit Mem Tr
open Go.Proofs.YtmmmghpimdfleaaGreatDoor.Own
set_option maxRecDepth 20000 in
theorem Gm(rc st:Nat->BitVec 32)(v:Value)(l:List Rec)(w:World)(hg:Sum.Gl rc st w)(hr:Op.jR (fun b=>b<w.heap.size) w v l)(hb:Op.gJ l<=4194304) :
 Calls Tryz.prog 40 #[v] w (JL w (dV rc st [] l)):=by
 obtain⟨ao,cap,rfl,hlc,hcm,hel⟩:=id hr;have HR:=yH hr;have HB:=yH hb;have HG:=yH hg;have hll:=sK l;have hnl:l.length<=4194304:=(by omega);obtain⟨n,hn⟩:∃n,l.length=n:=⟨_,rfl⟩;rw[hn]at hnl ⊢;have HN:=yH hn;clear hr hb hg hlc hcm hel hll hn
 go_enter Tryz.func40,Tryz.ntmps40
 go_wp2_with fail;refine(RP w).mono ?_;rintro e w1 ⟨M,F,s,rfl,h1,hMF,b1⟩;have H1:=yH h1;have HMF:=yH hMF;clear h1 hMF
 go_wp2_with fail
 go_loopw [5,11] (fun _ i wr=>∃k:Nat,k<=n/\i = .int .i64 k/\Hid (∃M' F',Is M' F' wr s (dV rc st [] (l.take k))/\∀b,M' b∨F' b->w.heap.size<=b)/\Below w.heap.size w wr) (fun _ i _=>n-(intOf i).toNat)
 case atStart=>exact⟨0,Nat.zero_le _,rfl,yH ⟨M,F,H1.out,HMF.out⟩,b1⟩
 case round =>
  obtain⟨k,hk,rfl,hst,br⟩:=hrel;by_cases hlt:k<n
  ·have hkl:k<l.length:=(by rw[HN.out];exact hlt);obtain⟨a2,c2,hv2,_,_,hel⟩:=HR.out.below br;rcases hel with h0|⟨rb,ro,ha,_,hel⟩
   ·rw[h0]at hkl;simp at hkl
   injection hv2 with e1 e2 e3;rw[ha]at e1;subst e1;clear e2 e3;obtain⟨cs,hrg,hrec⟩:=hel k hkl;have hcl:=hrec.length;have hoc:=Tab.dX hrec;have nC:=yH hrec;have e0:(0:Int)<=(k:Int):=Int.natCast_nonneg _;have e1:(k:Int)<(n:Int):=(by omega);clear hel hrec ha
   go_wp2_with (first
    | (refine wpList_load_mid rfl 31 _ (by rfl) rb (ro+k*39) (by rfl) cs _ hrg Tryz.underlying31 rfl (by rw[hcl];kernel_rfl) ?_)
    | (refine wpList_store_mid (by rfl) 31 _ _ (by rfl) wr.heap.size 0 cs.toArray (by rfl) (by rfl) ?h4 ?h5 ?h6 ?_;rotate_right;refine Mem.named ?_;intro W hW;have hrg2:=aZ hW hcl.symm)
    | (refine wpList_load_mid rfl 31 _ (by rfl) wr.heap.size 0 (by rfl) cs _ hrg2 Tryz.underlying31 rfl (by rw[hcl];kernel_rfl) ?_))
   case h4=>first|exact(Bx.new wr Ins.ah.cells 31).there 39 rfl|exact(Bx.new wr Ins.ah.cells 31).there _ (by rw[show cs.toArray.size=39 by simpa using hcl];rfl)
   case h5=>first|exact sN|(rw[List.size_toArray,hcl];kernel_rfl)
   case h6=>first|exact hoc|exact all_oneCell_toArray hoc
   obtain⟨M',F',his,hM'⟩:=hst.out;have bW:=aX hW;have BW:=br.trans (bW.mono br.size);have hS:=stk rc st (l.take k) (by have:=Gn l k;have:=HB.out;omega);have hlen:=hS.len;rw[List.length_take]at hlen;have MV:=yH (D8 (rc:=rc) (st:=st) [] l k hkl);have HM':=yH hM';have zdU:=his.lt;have hbk:l[k].bulk<=4194304:=(by have:=jy (List.getElem_mem hkl);have:=HB.out;omega);clear hrg hrg2 hW;refine(insertC rc st M' F' (fun b=>b<w.heap.size) s (dV rc st [] (l.take k)) l[k] cs W (his.below bW) (HG.out.below BW) (nC.out.below bW) (fun b hb=>Nat.lt_of_lt_of_le hb BW.size) hS.good hbk (by omega)).mono ?_;rintro e w2 ⟨rfl,M2,F2,hi2,xG,hM2,hF2⟩;have HI2:=yH hi2;have B2:=BW.trans (xG.below BW.size (fun i hi hm=>by have:=HM'.out i (.inl hm);omega));have HMM:=yH (show ∀b,M2 b∨F2 b->w.heap.size<=b from fun b hb=>by
    have hz:=BW.size;rcases hb with h|h
    ·rcases hM2 b h with h|h
     ·exact HM'.out b (.inl h)
     ·omega
    ·rcases hF2 b h with h|h
     ·exact HM'.out b (.inr h)
     ·omega)
   clear hi2 his hM' xG hM2 hF2 zdU hst
   go_wp2_with fail
   go_roundw
   case rel=>exact⟨k+1,by omega,by go_num,yH ⟨M2,F2,by rw[MV.out];exact HI2.out,HMM.out⟩,B2⟩
   case measure=>simp[intOf];omega
  ·obtain rfl:k=n:=(by omega)
   go_wp2_with fail
   go_ret;obtain⟨M',F',hi,hM'⟩:=hst.out;rw[List.take_of_length_le (by rw[HN.out];exact Nat.le_refl _)]at hi;exact⟨M',F',s,rfl,hi,hM',br⟩
end St

namespace St
open Go.RowKit Mem Tr
open Go.Proofs.YtmmmghpimdfleaaGreatDoor.Own
open Go.Proofs.YtmmmghpimdfleaaGreatDoor.kU
theorem JM{best:Bst}{D:List ByteArray}{want:Int}{rs:List Rec}{out:List ByteArray}{fr:Int}{r:Rec}(hf:fr<want)(hp:pick best rs D=some r):next best D want ⟨rs,out,fr⟩=some ⟨Sp.cut Rec.path rs r.path,out ++ [r.path],fr+r.size⟩:=by
 unfold next;rw[if_pos (show(⟨rs,out,fr⟩:At).freed<want from hf),show pick best (⟨rs,out,fr⟩:At).rs D=some r from hp]
theorem JO{best:Bst}{D:List ByteArray}{want:Int}{rs:List Rec}{out:List ByteArray}{fr:Int}(hf:¬fr<want):next best D want ⟨rs,out,fr⟩=none:=by
 unfold next;rw[if_neg (show ¬(⟨rs,out,fr⟩:At).freed<want from hf)]
theorem JP(best:Bst)(D:List ByteArray)(want:Int)(s:At):uK best D want s 1=next best D want s:=rfl
theorem bQ{best:Bst}{D:List ByteArray}{rs:List Rec}{r:Rec}{f:At}(hp:pick best rs D=some r)(hz:r.size=120)(h:Fin best D 1 rs f):f.out = [r.path]/\f.freed=120/\f.rs=Sp.cut Rec.path rs r.path:=by
 obtain⟨n,h1,h2⟩:=h;have hn:=JM (out:=[]) (fr:=0) (want:=1) (by decide) hp;rw[hz,List.nil_append,Int.zero_add]at hn;have e:=Io h1 h2 (m:=1) ((JP _ _ _ _).trans hn) (JO (by decide));subst e;exact⟨rfl,rfl,rfl⟩
def tV:Tree:=⟨3,false,⟨#[]⟩,.nil⟩
theorem Gp:Sum.codeOf tV=0:=by kernel_rfl
section
variable (rc st : Nat → BitVec 32)
def rd:Rec:=bY rc st ⟨#[98]⟩ tV []
theorem vz:(rp rc st).path≠(rd rc st).path:=Xd.Oi rc st _ _ _ _ 97 98 (by decide)
theorem Gq:Sp.get Rec.path [rp rc st] (rd rc st).path=none:=by
 unfold Sp.get;rw[List.find?_cons_of_neg (by simpa using vz rc st)];rfl
theorem Pm:aJ.eY rc st [rp rc st] (rd rc st)=0:=by
 unfold aJ.eY;rw[if_pos (show aJ.bP rc st (rd rc st)=0 from zn rc st Gp Uk rC)];have hl:aJ.lacks [rp rc st] (rd rc st)=false:=by
  unfold aJ.lacks;rw[List.any_eq_false];intro x hx;have:x∈([]:List ByteArray):=hx;cases this
 rw[hl,Gq];rfl
def ig:List Rec:=Sp.put Rec.path [rp rc st] (rd rc st)
theorem zbN:ru rc st [rp rc st] ⟨#[98]⟩ tV []=0/\xg rc st [rp rc st] ⟨#[98]⟩ tV []=ig rc st/\tH rc st [rp rc st] ⟨#[98]⟩ tV []=(rd rc st).path:=by
 have hm:=Ij Uk rC;have hE:ru rc st [rp rc st] ⟨#[98]⟩ tV []=0:=(by unfold ru;rw[if_pos Gp,if_pos hm];exact Pm rc st);refine⟨hE,?_,?_⟩
 ·unfold xg;rw[if_pos ⟨Gp,hm⟩];unfold aJ.fM;rw[if_pos (show aJ.eY rc st [rp rc st] (bY rc st ⟨#[98]⟩ tV [])=0 from Pm rc st)];rw[show(bY rc st ⟨#[98]⟩ tV [])=rd rc st from rfl,Gq];rfl
 ·unfold tH;rw[if_pos hE];rfl
theorem jY{r:Rec}:r∈ig rc st↔r=rd rc st∨r=rp rc st:=by
 unfold ig;rw[Sp.jo];simp
theorem D9:(ig rc st).length=2:=by unfold ig;rw[Sp.jM];rfl
theorem lI:aJ.Good rc st (ig rc st):=by
 have h:=aJ.qL (r:=rd rc st) (DR rc st) (by
  unfold Rec.bulk;rw[show(rd rc st).path.size=46+1 from qh rc st _ _ _];show 46+1+tV.bulk+aB []<=_;decide)
 unfold aJ.fM at h;rw[if_pos (Pm rc st),Gq]at h;exact h
theorem zx{r:Rec}(h:r∈ig rc st):r.refs = []:=by
 rcases(jY rc st).1 h with rfl|rfl<;>rfl
theorem Ut:aJ.has (ig rc st) (rd rc st).path=true:=aJ.has_of_mem (lI rc st).rise ((jY rc st).2 (.inl rfl))
theorem zbO:aJ.has (ig rc st) (rp rc st).path=true:=aJ.has_of_mem (lI rc st).rise ((jY rc st).2 (.inr rfl))
theorem SI{x:ByteArray}:jc (ig rc st) [(rd rc st).path] x↔x=(rd rc st).path:=by
 unfold jc there;rw[List.filter_cons_of_pos (Ut rc st)];constructor
 ·intro h
  induction h with
  | root hm=>simpa using hm
  | step _ hr hq _=>rw[zx rc st hr]at hq;cases hq
 ·rintro rfl;exact .root (by simp)
theorem Pn{x:ByteArray}:x∈iE (ig rc st) [(rd rc st).path]↔x=(rp rc st).path:=by
 rw[qM,SI];constructor
 ·rintro⟨⟨r,hr,rfl⟩,hne⟩;rcases(jY rc st).1 hr with rfl|rfl
  ·exact absurd rfl hne
  ·rfl
 ·rintro rfl;exact⟨⟨_,(jY rc st).2 (.inr rfl),rfl⟩,vz rc st⟩
theorem XT(rs:List Rec)(p:ByteArray)(h:∀r∈rs,r.refs = []):gZ rs p = []:=by
 unfold gZ;rw[List.map_eq_nil_iff,List.filter_eq_nil_iff];intro r hr;unfold fE;rw[h r hr];simp
theorem XU:free (ig rc st) (rp rc st).path=true:=by
 unfold free;rw[zbO,XT _ _ (fun r h=>zx rc st h)];rfl
theorem Po:(rp rc st).size=120:=by
 show((Sum.bytesOf (og ⟨#[120]⟩)).length:Int)=120;have h:(Sum.bytesOf (og ⟨#[120]⟩)).length=120:=(by kernel_rfl);rw[h];rfl
/-- the sweep of the JD question -/
theorem zbP{best:Bst}{f:At}(h:Fin best (iE (ig rc st) [(rd rc st).path]) 1 (ig rc st) f):f.out = [(rp rc st).path]/\f.freed=120/\f.rs=Sp.cut Rec.path (ig rc st) (rp rc st).path:=by
 have hp:pick best (ig rc st) (iE (ig rc st) [(rd rc st).path])=some (rp rc st):=by
  cases hh:pick best (ig rc st) (iE (ig rc st) [(rd rc st).path])with
  | none =>
   have:=JI hh (rp rc st).path ((Pn rc st).2 rfl);rw[XU]at this;cases this
  | some r =>
   obtain⟨m1,m2,_⟩:=iM hh;have e:=(Pn rc st).1 m2;rcases(jY rc st).1 m1 with rfl|rfl
   ·exact absurd e.symm (vz rc st)
   ·rfl
 exact bQ hp (Po rc st) h
theorem SK:Small (ig rc st):=by
 intro r hr;rcases(jY rc st).1 hr with rfl|rfl
 ·show 0<=((Sum.bytesOf tV).length:Int)/\((Sum.bytesOf tV).length:Int)<=1073741824;have h:(Sum.bytesOf tV).length<=1073741824:=of_decide_eq_true (by kernel_rfl);omega
 ·rw[Po];decide
end
set_option maxRecDepth 20000 in
theorem Pq(rc st:Nat->BitVec 32)(w:World)(hg:Sum.Gl rc st w):Calls Tryz.prog 41 #[] w fun e w'=>e = .returned (.bool true)/\Below w.heap.size w w':=by
 have HG:=yH hg;clear hg
 go_enter Tryz.func41,Tryz.ntmps41
 go_wp2_with fail;refine(RP w).mono ?_;rintro e w1 ⟨M,F,s,rfl,h1,hMF,b1⟩;have H1:=yH h1;have HMF:=yH hMF;clear h1 hMF
 go_wp2_with fail;refine(zT rc st M F (fun _=>False) (fun _=>False) s [] ⟨#[97]⟩ (og ⟨#[120]⟩) [] (.slice none 0 0) (.slice none 0 0) w1 H1.out (HG.out.below b1) ?k1 ?k2 (fun _ h=>h.elim) (fun _ h=>h.elim) ?k3 ?k4 ?k5 ?k6 (by simp)).mono ?_
 case k1=>exact⟨none,0,rfl,Nat.le_refl _,Nat.zero_le _,.inl rfl⟩
 case k2=>exact⟨none,0,rfl,Nat.le_refl _,Nat.zero_le _,.inl rfl⟩
 case k3=>intro n cap h;cases h;rfl
 case k4=>exact⟨List.Pairwise.nil,by simp,by simp,by simp⟩
 case k5=>decide
 case k6=>decide
 obtain⟨x1,x2,x3⟩:=zbt rc st;rw[x1,x2,x3];rintro e w3 ⟨rfl,M2,F2,h3,k3,m3,f3⟩;obtain⟨p,hp⟩:∃p,(rp rc st).path=p:=⟨_,rfl⟩;rw[hp];have HP:=yH hp;have H3:=yH h3;have B3:=b1.trans (k3.below b1.size (fun i hi hm=>by have:=HMF.out i (.inl hm);omega));have zbQ:=yH (show ∀b,M2 b∨F2 b->w.heap.size<=b from fun b hb=>by
  have hz:=b1.size;rcases hb with h|h
  ·rcases m3 b h with h|h
   ·exact HMF.out b (.inl h)
   ·omega
  ·rcases f3 b h with h|h
   ·exact HMF.out b (.inr h)
   ·omega)
 clear h3 k3 m3 f3 hp x1 x2 x3
 go_wp2_with fail;refine(zT rc st M2 F2 (fun _=>False) (fun _=>False) s [rp rc st] ⟨#[98]⟩ tV [] (.slice none 0 0) (.slice none 0 0) w3 H3.out (HG.out.below B3) ?q1 ?q2 (fun _ h=>h.elim) (fun _ h=>h.elim) ?q3 (DR rc st) ?q5 ?q6 (by simp)).mono ?_
 case q1=>exact⟨none,0,rfl,Nat.le_refl _,Nat.zero_le _,.inl rfl⟩
 case q2=>exact⟨none,0,rfl,Nat.le_refl _,Nat.zero_le _,.inl rfl⟩
 case q3=>intro n cap h;cases h;rfl
 case q5=>decide
 case q6=>decide
 obtain⟨y1,y2,y3⟩:=zbN rc st;rw[y1,y2,y3];rintro e w6 ⟨rfl,M3,F3,h6,k6,m6,f6⟩;obtain⟨q,hq⟩:∃q,(rd rc st).path=q:=⟨_,rfl⟩;rw[hq];have HQ:=yH hq;have H6:=yH h6;have B6:=B3.trans (k6.below B3.size (fun i hi hm=>by have:=zbQ.out i (.inl hm);omega));have zdV:=yH (show ∀b,M3 b->w.heap.size<=b from fun b h=>by
  have hz:=B3.size;rcases m6 b h with h|h
  ·exact zbQ.out b (.inl h)
  ·omega)
 clear h6 k6 m6 f6 hq y1 y2 y3
 go_wp2_with fail;refine ae fun w7 hw7=>?_
 have XV:=OJ w6 q;rw[hw7]at XV;obtain⟨b7,x7⟩:=af hw7;have l7:=x7.lt;have zdW:=yH (XV.sub (S':=fun b=>b<w7.heap.size) (fun b h _=>h));have B7:=B6.trans (b7.mono B6.size);clear hw7 x7 XV;have hps:∀r∈ig rc st,r.bulk<=4194304:=(lI rc st).bulk;have hwt:tK (ig rc st)<=2097152:=(by unfold ig;rw[Iu];show 0+0+0<=_;decide);refine(D7 M3 F3 s (ig rc st) _ [q] (.slice none 0 0) [] 1 w7 (H6.out.below b7) (by rw[D9];decide) (lI rc st).rise hps (SK rc st) zdW.out (by simp) hwt (lI rc st).closed (Uses.nil _ _) (by simp) (fun x h=>by cases h)).mono ?_;rintro e w8 ⟨f,v,M4,hfin,rfl,hrow,his,kp,hsub⟩;rw[←HQ.out]at hfin;obtain⟨f1,f2,f3⟩:=zbP rc st hfin;rw[f1,HP.out]at hrow;rw[f3,HP.out]at his;rw[f2];have hrow:w8.ownsRow w7.heap.size 9 1 v 1 [.string p]:=hrow;obtain⟨g,cap,rfl⟩:=ownsRow_succ (k:=0) hrow;have c0:w8.cell? ⟨g,0,none⟩=some (.string p):=(by have:=hrow.cells (g:=g) rfl 0 (.string p) rfl;rwa[Addr.add_lit]at this);have B8:=B7.trans (kp.below B7.size (fun i hi hm=>by have:=zdV.out i hm;omega));have t1:(p.toList==p.toList)=true:=(by simp);have hcl:(Sp.cut Rec.path (ig rc st) p).length<=1073741824:=Nat.le_trans (List.length_filter_le _ _) (by rw[D9];decide);have HH1:=vT M4 F3 s (Sp.cut Rec.path (ig rc st) p) p w8 his hcl;have hf1:aJ.has (Sp.cut Rec.path (ig rc st) p) p=false:=by
  cases hh:aJ.has (Sp.cut Rec.path (ig rc st) p) p with
  | false=>rfl
  | true=>exact absurd rfl (Il.1 hh).2
 rw[hf1]at HH1;have Tv:=fun W hb=>vT M4 F3 s (Sp.cut Rec.path (ig rc st) p) q W (his.below hb) hcl
 have hf2:aJ.has (Sp.cut Rec.path (ig rc st) p) q=true:=Il.2 ⟨by rw[←HQ.out];exact Ut rc st,by rw[←HQ.out,←HP.out];exact(vz rc st).symm⟩;rw[hf2]at Tv;have H1':=yH HH1;have H2':=yH Tv;clear hfin f1 f2 f3 hrow his kp hsub hps hwt HH1 Tv hf1 hf2 hcl
 go_wp2_with fail;refine H1'.out.mono ?_;rintro e w9 ⟨rfl,b9⟩
 go_wp2_with fail;refine(H2'.out w9 b9).mono ?_;rintro e w10 ⟨rfl,b10⟩
 go_wp2_with fail
 go_ret;exact⟨rfl,B8.trans ((b9.trans (b10.mono b9.size)).mono B8.size)⟩
end St

namespace St
open Go.RowKit Mem Tr
open Go.Proofs.YtmmmghpimdfleaaGreatDoor.Own
set_option maxRecDepth 20000 in
theorem Pv(M F S:Nat->Prop)(s:Nat)(rs:List Rec)(v:Value)(l:List Rec)(w:World)(h:Is M F w s rs)(hn:rs.length<=1048576)(hbk:∀r∈rs,r.bulk<=4194304)(hr:Op.jR S w v l)(hl:rs.length=l.length)(hall:∀r∈l,Sp.get Rec.path rs r.path=some r) :
 Calls Tryz.prog 48 #[.pointer (some ⟨s,0,none⟩),v] w fun e w'=>e = .returned (.bool true)/\Below w.heap.size w w':=by
 have H:=yH h;have HR:=yH hr;have YG:=yH hbk;have vU:=yH hall;have HNR:=yH hn;obtain⟨n,hnn⟩:∃n,l.length=n:=⟨_,rfl⟩;have HN:=yH hnn;have hL:=Xn M F s rs w h;rw[hl,hnn]at hL;have hnl:n<=1048576:=(by omega);obtain⟨ao,cap,rfl,_,_,_⟩:=hr;rw[hnn];have tn:((n:Int)==(n:Int))=true:=(by simp);clear h hbk hall hnn hl hn
 go_enter Tryz.func48,Tryz.ntmps48
 go_wp2_with fail;refine hL.mono ?_;rintro e w1 ⟨rfl,hw1⟩;obtain rfl:=hw1.symm;clear hL
 go_wp2_with fail;clear tn
 go_loopw [6,7,8,18] (fun _ _ _ i wr=>∃k:Nat,k<=n/\i = .int .i64 k/\Below w.heap.size w wr) (fun _ _ _ i _=>n-(intOf i).toNat)
 case atStart=>exact⟨0,Nat.zero_le _,rfl,Below.refl _ _⟩
 case round =>
  obtain⟨k,hk,rfl,br⟩:=hrel;by_cases hlt:k<n
  ·have hkl:k<l.length:=(by rw[HN.out];exact hlt);obtain⟨a2,c2,hv2,_,_,hel⟩:=HR.out.below br;rcases hel with h0|⟨rb,ro,ha,_,hel⟩
   ·rw[h0]at hkl;simp at hkl
   injection hv2 with e1 e2 e3;rw[ha]at e1;subst e1;clear e2 e3;obtain⟨cs,hrg,hrec⟩:=hel k hkl;have hget:=vU.out l[k] (List.getElem_mem _);have hrb:=YG.out _ (Sp.get_some hget).1;obtain⟨r,hrk⟩:∃r,l[k]=r:=⟨_,rfl⟩;rw[hrk]at hrec hget hrb;have hcl:=hrec.length;have hoc:=Tab.dX hrec;have nC:=yH hrec;have zdX:=yH hget;have kL:=yH hrb;have h0:cs[0]'(by omega) = .string r.path:=by
    obtain⟨kv,rv,h1,h2,_⟩:=hrec;exact(fJ h1.symm hcl h2).1
   have H0:=yH h0;have e0:(0:Int)<=(k:Int):=Int.natCast_nonneg _;have e1:(k:Int)<(n:Int):=(by omega);clear hel hrec ha h0 hget hrb hrk
   go_wp2_with (first
    | (refine wpList_load_mid rfl 31 _ (by rfl) rb (ro+k*39) (by rfl) cs _ hrg Tryz.underlying31 rfl (by rw[hcl];kernel_rfl) ?_)
    | (refine wpList_store_mid (by rfl) 31 _ _ (by rfl) wr.heap.size 0 cs.toArray (by rfl) (by rfl) ?h4 ?h5 ?h6 ?_;rotate_right;refine Mem.named ?_;intro w4 hw4))
   case h4=>first|exact(Bx.new wr Ins.ah.cells 31).there 39 rfl|exact(Bx.new wr Ins.ah.cells 31).there _ (by rw[show cs.toArray.size=39 by simpa using hcl];rfl)
   case h5=>first|exact sN|(rw[List.size_toArray,hcl];kernel_rfl)
   case h6=>first|exact hoc|exact all_oneCell_toArray hoc
   have x4:Bx w4 wr.heap.size cs.toArray 31:=lu hw4 hcl.symm;have b4:=aX hw4;have SC:=br.trans (b4.mono br.size);have X4:=yH x4;have lx:=x4.lt;have zbR:=yH ((nC.out.below b4));obtain⟨kb,hkb⟩:∃kb,wr.heap.size=kb:=⟨_,rfl⟩;rw[hkb]at X4 lx;rw[hkb];clear hw4 x4 hrg;have hS3:∀w',Below w4.heap.size w4 w'->w'.cell? ⟨kb,0,none⟩=some (.string r.path):=fun w' hb=>by
    have:=(X4.out.pG hb lx).cell 0;rw[this,List.getElem?_toArray,List.getElem?_eq_getElem (by omega),H0.out]
   have hS0:=hS3 w4.drew (Below.refl _ w4).drew;have hget:=fun w' (hb:Below w4.heap.size w4 w')=>storeOffers.Iq w' (H.out.below (SC.trans (hb.mono SC.size))) (by have:=HNR.out;omega) YG.out zdX.out
   clear hkb
   go_wp2_with fail;refine wp_region_held_drew (S:=fun w'=>w'.cell? ⟨kb,0,none⟩=some (.string r.path)) (by kernel_rfl) hS0 (fun hHeld=>?_);refine yT 0 ?_;refine yT 1 ?_;refine yT 2 ?_;refine yT 3 ?_;refine yT 4 ?_;refine wpAnyH_ready (rs:=[5,9]) (by kernel_rfl) (by simp) ?_;refine AllReadyH.cons rfl (fun K hK=>?Ae) (AllReadyH.cons rfl (fun K hK=>?Af) AllReadyH.nil)
   case' Ae =>
    go_simp;refine(hget w4.drew (Below.refl _ w4).drew).mono ?_;rintro e wg3 ⟨oc,hol,hoo,rfl,b3,hrec⟩;have b3':Below w4.heap.size w4 wg3:=Copy.ax b3;refine hK.out _ _ (hS3 wg3 b3') (fun hHeld=>?_);clear hK K;refine yT 6 ?_;refine yT 7 ?_;refine yT 8 ?_;refine yR 9 (fun K hK=>?_)
    go_simp
    change K _ (wg3.alloc (.cells Ins.ah.cells 31))
    obtain⟨WN,Dx⟩:∃W,wg3.alloc (.cells Ins.ah.cells 31)=W:=⟨_,rfl⟩;obtain⟨Xp,xN⟩:=af Dx;have bN:Below w4.heap.size w4 WN:=b3'.trans (Xp.mono b3'.size);rw[Dx];refine hK.out _ _ (hS3 WN bN) (fun hHeld=>?_);have uo:=hrec.below Xp;have Xq:w4.heap.size<=wg3.heap.size:=b3'.size;have hN:aT (fun b=>b≠wg3.heap.size) WN oc r:=uo.sub (fun b _ h=>by have:=h.2;omega);obtain⟨nb,tC⟩:∃nb,wg3.heap.size=nb:=⟨_,rfl⟩;rw[tC]at xN Xq hN ⊢;clear hK K tC Dx Xp hrec b3' b3
   case' Af =>
    go_simp
    change K _ (w4.alloc (.cells Ins.ah.cells 31)).drew
    obtain⟨wg4,SL⟩:∃W,(w4.alloc (.cells Ins.ah.cells 31)).drew=W:=⟨_,rfl⟩;have x4:Bx wg4 w4.heap.size Ins.ah.cells 31:=(by rw[←SL];exact Bx.new w4 Ins.ah.cells 31);have b4:Below w4.heap.size w4 wg4:=(by rw[←SL];exact((Below.refl _ w4).alloc (Nat.le_refl _) _).drew);rw[SL];refine hK.out _ _ (hS3 wg4 b4) (fun hHeld=>?_);obtain⟨nb,tC⟩:∃nb,w4.heap.size=nb:=⟨_,rfl⟩;rw[tC];clear hK K SL;refine yR 5 (fun K hK=>?_)
    go_simp;refine(hget wg4 b4).mono ?_;rintro e WN ⟨oc,hol,hoo,rfl,b5,uo⟩;have bN:Below w4.heap.size w4 WN:=b4.trans (b5.mono b4.size);refine hK.out _ _ (hS3 WN bN) (fun hHeld=>?_);clear hK K;refine yT 6 ?_;refine yT 7 ?_;refine yT 8 ?_;have xN:=x4.below b5;have Xq:w4.heap.size<=nb:=(by omega);have l4:=x4.lt;have hN:aT (fun b=>b≠w4.heap.size) WN oc r:=uo.sub (fun b _ h=>by have:=h.1;omega);rw[tC]at xN hN;clear tC x4 b4 b5 l4
   all_goals
    refine yR 10 (fun K hK=>?_);rw[if_pos (by rfl)];refine wp_store_mid 31 _ _ (by rfl) nb 0 oc.toArray (by rfl) (by rfl) ?_ ?_ ?_ ?_
    ·exact xN.there oc.toArray.size (by rw[show oc.toArray.size=39 by simpa using hol];rfl)
    ·rw[List.size_toArray,hol];kernel_rfl
    ·exact all_oneCell_toArray hoo
    refine Mem.named ?_;intro WS hWS;have hW2:WN.setCells nb 0 oc=WS:=hWS;have bW:Below w4.heap.size w4 WS:=(by rw[←hW2];exact Tab.below_setCells Xq _ _ bN (Nat.le_refl _));have rW:WS.rangeAt nb 0 oc:=(by rw[←hW2];exact World.rangeAt_setCells_same _ _ _ _ (xN.there _ (by rw[hol];rfl)));have kW:Kp (fun b=>b=nb) WN WS:=(by rw[←hW2];exact aW (M:=fun b=>b=nb) (fun _=>rfl) _ _ (Kp.refl _ WN));have hWR:aT (fun b=>b≠nb) WS oc r:=hN.ag (Ag.bg kW (fun q _ hq e=>hq e));refine hK.out _ _ (hS3 WS bW) (fun hHeld=>?_);clear hK K hWS hW2;refine yT 11 ?_;refine wpAnyH_done (by kernel_rfl) ?_ _;clear hHeld;have VS:=SC.trans (bW.mono SC.size);have r5:WS.rangeAt kb 0 cs:=(by have:=(X4.out.pG bW lx).range;simpa using this);have hu:=Tryz.underlying31;have HWR:=yH hWR;have zbS:=yH (zbR.out.below bW);clear hS0 hS3 hget hWR uo hN xN kW
    go_wp2_with (first
     | (refine aI (by first|rfl|simp[Region.wanted,yielded]) 31 _ (by rfl) nb 0 (by rfl) oc _ rW hu rfl (by rw[hol];kernel_rfl) ?_)
     | (refine aI (by first|rfl|simp[Region.wanted,yielded]) 31 _ (by rfl) kb 0 (by rfl) cs _ r5 hu rfl (by rw[hcl];kernel_rfl) ?_))
    refine(MR _ _ r r oc cs WS HWR.out zbS.out kL.out).mono ?_;rintro e w6 ⟨rfl,b6⟩;rw[show Jd r r=true from decide_eq_true rfl];have PN:=VS.trans (b6.mono VS.size);clear rW r5
    go_wp2_with fail
    go_roundw
    case rel=>exact⟨k+1,by omega,by go_num,PN⟩
    case measure=>simp[intOf];omega
  ·have hkn:n=k:=(by omega);subst hkn
   go_wp2_with fail
   go_ret;exact⟨rfl,br⟩
theorem rJ:∀(l:List Value) (k:Nat) (a:Array Value),k+l.length<=a.size->∀i:Nat,(List.foldl (fun cs x=>cs.setIfInBounds x.2 x.1) a (l.zipIdx k))[i]? = if k<=i/\i<k+l.length then l[i-k]? else a[i]?
 | [],k,a,_,i=>by rw[if_neg (by simp)];rfl
 | x :: l,k,a,h,i=>by
  rw[List.length_cons]at h;rw[List.zipIdx_cons,List.foldl_cons,rJ l (k+1) _ (by rw[Array.size_setIfInBounds];omega) i,List.length_cons];by_cases h1:i=k
  ·subst h1;rw[if_neg (by omega),if_pos (by omega),Nat.sub_self,Array.getElem?_setIfInBounds_self_of_lt (by omega)];rfl
  ·by_cases h2:k+1<=i/\i<k+1+l.length
   ·rw[if_pos h2,if_pos (by omega),show i-k=(i-(k+1))+1 by omega,List.getElem?_cons_succ]
   ·rw[if_neg h2,if_neg (by omega),Array.getElem?_setIfInBounds_ne (by omega)]
theorem qO(l:List Value)(a:Array Value)(h:a.size=l.length):List.foldl (fun cs x=>cs.setIfInBounds x.2 x.1) a l.zipIdx=l.toArray:=by
 apply Array.ext_getElem?;intro i;rw[rJ l 0 a (by omega) i];by_cases hi:i<l.length
 ·rw[if_pos (by omega)];simp
 ·rw[if_neg (by omega),Array.getElem?_eq_none (by omega),Array.getElem?_eq_none (by simp;omega)]
/-- the records of a row of blocks of 39 -/
structure dG(S:Nat->Prop)(w:World)(xs:List Value)(l:List Rec):Prop where
 len:xs.length=39*l.length
 at':∀j (h:j<l.length),aT S w ((xs.drop (39*j)).take 39) l[j]
theorem dG.nil(S:Nat->Prop)(w:World):dG S w [] []:=⟨rfl,fun j h=>absurd h (by simp)⟩
theorem dG.ag{S:Nat->Prop}{w w':World}{xs:List Value}{l:List Rec}(h:dG S w xs l)(ha:Ag S w w'):dG S w' xs l:=⟨h.len,fun j hj=>(h.at' j hj).ag ha⟩
theorem dG.mono{S S':Nat->Prop}{w:World}{xs:List Value}{l:List Rec}(h:dG S w xs l)(hs:∀b,S b->S' b):dG S' w xs l:=⟨h.len,fun j hj=>(h.at' j hj).sub fun _ _ h=>hs _ h⟩
theorem dG.snoc{S:Nat->Prop}{w:World}{xs cs:List Value}{l:List Rec}{r:Rec}(h:dG S w xs l)(hr:aT S w cs r):dG S w (xs++cs) (l ++ [r]):=by
 have hl:=hr.length;refine⟨by rw[List.length_append,List.length_append,h.len,hl,List.length_singleton];omega,fun j hj=>?_⟩;rw[List.length_append,List.length_singleton]at hj;by_cases e:j<l.length
 ·rw[List.getElem_append_left e,List.drop_append_of_le_length (by rw[h.len];omega),List.take_append_of_le_length (by rw[List.length_drop,h.len];omega)];exact h.at' j e
 ·obtain rfl:j=l.length:=(by omega);rw[List.getElem_append_right (by omega),←h.len,List.drop_left,List.take_of_length_le (by omega)]
  simpa using hr
theorem Ho{B:Nat}{S:Nat->Prop}{w:World}{v:Value}{xs:List Value}{l:List Rec}(h:w.ownsRow B 31 39 v l.length xs)(hx:dG S w xs l)(hS:∀b,v.ownBlock=some b->S b):Op.jR S w v l:=by
 rcases h.2 with⟨hv,h0⟩|⟨g,cap,cur,hv,hb,hg,hn,hc,hsz,htk⟩
 ·obtain rfl:=List.eq_nil_of_length_eq_zero h0;rw[hv];exact⟨none,0,rfl,Nat.le_refl _,by unfold maxLen;omega,.inl rfl⟩
 ·refine⟨some ⟨g,0,none⟩,cap,hv,hn,hc,.inr ⟨g,0,rfl,hS g (by rw[hv];rfl),fun j hj=>⟨(xs.drop (39*j)).take 39,fun i u hi=>?_,hx.at' j hj⟩⟩⟩;rw[List.getElem?_take]at hi;by_cases e:i<39
  ·rw[if_pos e,List.getElem?_drop]at hi;have h1:=World.ownsRow.cells h (g:=g) (by rw[hv];rfl) (39*j+i) u hi;rw[Nat.zero_add,Nat.mul_comm j 39];unfold Addr.add at h1;split at h1
   ·rename_i h0;rw[h0];exact h1
   ·simpa using h1
  ·rw[if_neg e]at hi;cases hi
end St
set_option maxRecDepth 20000
namespace Op
open Go.ChangeShapes Go.WideShapes Go.ChangeAt Go.RowKit Mem Tr
open Go.Proofs.YtmmmghpimdfleaaGreatDoor.kU (Uses)
theorem Uu:Tryz.prog.cellsOf 81=2:=by kernel_rfl
theorem XX:Tryz.prog.cellsOf 72=1:=by kernel_rfl
theorem zbT:Tryz.prog.cellsOf 74=3:=by kernel_rfl
def oh(l:List (ByteArray × Int)):Nat:=(l.map fun x=>x.1.size+2).sum
theorem JQ(l:List (ByteArray × Int)):2*l.length<=oh l:=by
 induction l with
 | nil=>exact Nat.le_refl _
 | cons x l ih=>unfold oh at *;rw[List.map_cons,List.sum_cons,List.length_cons];omega
theorem JR{l:List (ByteArray × Int)}{x:ByteArray × Int}(h:x∈l):x.1.size<=oh l:=by
 induction l with
 | nil=>cases h
 | cons y l ih =>
  unfold oh at *;rw[List.map_cons,List.sum_cons];rcases List.mem_cons.1 h with rfl|h
  ·omega
  ·have:=ih h;omega
/-- A Job in memory. -/
structure Uw(w:World)(cs:List Value)(roots:List ByteArray)(us:List (ByteArray × Int))(want:Int)(rv uv:Value):Prop where
 cells:cs = [rv,uv,.int .i64 want]
 roots:Strs (Old w) w rv roots
 uses:Uses (Old w) w uv us
 cnt:∀x∈us,x.2<9223372036854775808
 want:want<9223372036854775808
section
variable {H : Type} {enc : TypeId × Value → H} {w : World} {spare : Nat → Bool} {held : Bool}
theorem Px{n:Nat}{cs:List Value}{x:DataW H × List MemPlace}(h:DataW.trod enc Tryz.prog w 0 spare held n 81 cs=some x) :
 ∃(p:ByteArray) (c:Int),cs = [.string p,.int .i64 c]/\c<9223372036854775808/\p.size+3=Rows.uptoBulk x.1:=by
 obtain⟨xs,m,_,rfl,hl,hlen,hf⟩:=DataW.trod_struct Tryz.underlying81 h;rw[Uu]at hl
 match cs,hl with
 | [a,b],_ =>
 match xs,hlen with
 | [y0,y1],_ =>
  have h0:DataW.trod enc Tryz.prog w 0 spare held m 9 (([a,b].drop 0).take (Tryz.prog.cellsOf 9))=some y0:=hf 0 _ rfl;have h1:DataW.trod enc Tryz.prog w 0 spare held m 3 (([a,b].drop 1).take (Tryz.prog.cellsOf 3))=some y1:=hf 1 _ rfl;rw[Ea]at h0;rw[Py]at h1;obtain⟨p,e0,rfl,_⟩:=DataW.trod_string Tryz.underlying9 h0;obtain⟨c,e1,rfl,hw⟩:=DataW.trod_int Tryz.underlying3 h1;obtain rfl:a = .string p:=jS e0;obtain rfl:b = .int .i64 c:=jS e1;refine⟨p,c,rfl,?_,?_⟩
  ·have:=bounds_i64 hw;omega
  ·show p.size+3=Rows.uptoBulk (.agg [.lit (.string p.data.toList),.lit (.int .i64 c)]);rw[zy,lJ,oq]
theorem A8{n:Nat}(b:Nat):∀(l:List (DataW H × List MemPlace)) (off:Nat),(∀i,i<l.length->(w.cells? 0 ⟨b,off+i*2,none⟩ 2).bind (DataW.trod enc Tryz.prog w 0 spare held n 81)=l[i]?) ->
 ∃us:List (ByteArray × Int),us.length=l.length/\(∀j (h:j<us.length),w.cell? ⟨b,off+j*2,none⟩=some (.string us[j].1)/\w.cell? ⟨b,off+j*2+1,none⟩=some (.int .i64 us[j].2))/\(∀x∈us,x.2<9223372036854775808)/\oh us<=Rows.uptoBulkAll (l.map (·.1)):=by
 intro l
 induction l with
 | nil=>intro off _;exact⟨[],rfl,fun j h=>absurd h (by simp),fun x h=>(by cases h),Nat.zero_le _⟩
 | cons x l ih =>
  intro off h;have h0:=h 0 (by simp);obtain⟨cs,h1,h2⟩:=Option.bind_eq_some_iff.1 (show _=some x from h0);obtain⟨p,c,rfl,hc9,hb⟩:=Px h2;obtain⟨_,hl2,hc⟩:=World.cells?_some h1;obtain⟨us,hl,hel,hbd,hbk⟩:=ih (off+2) (fun i hi=>by
   have:=h (i+1) (by simpa using hi);rw[show off+(i+1)*2=off+2+i*2 by omega]at this
   simpa using this)
  refine⟨(p,c) :: us,by simp[hl],?_,?_,?_⟩
  ·intro j hj;cases j with
   | zero =>
    have q0:=hc 0 (by omega);have q1:=hc 1 (by omega);rw[add_plain]at q0 q1;exact⟨by simpa using q0,by simpa using q1⟩
   | succ j =>
    obtain⟨q1,q2⟩:=hel j (by simpa using hj);rw[show off+2+j*2=off+(j+1)*2 by omega]at q1 q2;exact⟨by simpa using q1,by simpa using q2⟩
  ·intro y hy;rcases List.mem_cons.1 hy with rfl|hy
   ·exact hc9
   ·exact hbd y hy
  ·show p.size+2+oh us<=Rows.uptoBulk x.1+Rows.uptoBulkAll (l.map (·.1));omega
theorem JS{fuel:Nat}{cs:List Value}{x:DataW H × List MemPlace}(h:DataW.trod enc Tryz.prog w 0 spare held fuel 72 cs=some x) :
 ∃v l,cs = [v]/\Uses (Old w) w v l/\(∀x∈l,x.2<9223372036854775808)/\oh l+1<=Rows.uptoBulk x.1:=by
 rcases DataW.trod_slice Tryz.underlying72 h with⟨rfl,rfl⟩|⟨a,len,cap,elems,rest,n,hn,rfl,rfl,hb,hl,hm,hlen,hel,hsp,hns⟩
 ·exact⟨_,[],rfl,kU.Uses.nil _ _,fun x h=>(by cases h),Nat.le_refl _⟩
 ·rw[Uu]at hel;have key:∃l:List (ByteArray × Int),l.length=len/\(l = []∨∃b off,some a=some ⟨b,off,none⟩/\Old w b/\∀j (h:j<l.length),w.cell? ⟨b,off+j*2,none⟩=some (.string l[j].1)/\w.cell? ⟨b,off+j*2+1,none⟩=some (.int .i64 l[j].2))/\(∀x∈l,x.2<9223372036854775808)/\oh l<=Rows.uptoBulkAll (elems.map (·.1)):=by
   by_cases h0:len=0
   ·exact⟨[],by rw[h0];rfl,.inl rfl,fun x h=>(by cases h),Nat.zero_le _⟩
   ·have h1:=hel 0 (by omega);rw[List.getElem?_eq_getElem (by omega)]at h1;obtain⟨cs',h2,h3⟩:=Option.bind_eq_some_iff.1 h1;obtain⟨_,hl5,hc⟩:=World.cells?_some h2;have h4:=hc 0 (by omega);rw[List.getElem?_eq_getElem (by omega)]at h4;obtain⟨b,off,spot⟩:=a;have hspot:spot=none:=(by simpa[Addr.add]using World.cell?_spot h4);subst hspot;obtain⟨us,k1,k2,k3,k4⟩:=A8 b elems off (fun i hi=>by
     have:=hel i (by omega);rwa[add_plain]at this)
    exact⟨us,k1.trans hlen,.inr ⟨b,off,rfl,World.block_lt_of_cell? w _ h4,k2⟩,k3,k4⟩
  obtain⟨l,rfl,k2,k3,k4⟩:=key;refine⟨_,l,rfl,⟨some a,cap,rfl,hl,hm,k2⟩,k3,?_⟩;show oh l+1<=Rows.uptoBulkAll (elems.map (·.1))+_+1;omega
theorem JU(a b c:DataW H):Rows.uptoBulk (.agg [a,b,c])=Rows.uptoBulk a+(Rows.uptoBulk b+(Rows.uptoBulk c+0))+1:=rfl
theorem SN{base:Nat}{v:Value}{d:DataW H}{ps:List MemPlace}(hv:Value.okWide Tryz.prog w .any base 74 v)(h:DataW.Trod enc Tryz.prog w 0 spare held 74 v d ps) :
 ∃(roots:List ByteArray) (us:List (ByteArray × Int)) (want:Int) (rv uv:Value) (cs:List Value),v = .agg cs.toArray/\Uw w cs roots us want rv uv/\aB roots+oh us+4<=Rows.uptoBulk d:=by
 obtain⟨⟨l⟩,rfl,_⟩:=okWide_struct Tryz.underlying74 hv;obtain⟨fuel,hf⟩:=h;have hf:DataW.trod enc Tryz.prog w 0 spare held fuel 74 l=some _:=hf;obtain⟨xs,n,_,he,hl,hlen,hg⟩:=DataW.trod_struct Tryz.underlying74 hf;rw[zbT]at hl
 match l,hl with
 | [a,b,c],_ =>
 match xs,hlen with
 | [y0,y1,y2],_ =>
  have h0:DataW.trod enc Tryz.prog w 0 spare held n 27 (([a,b,c].drop 0).take (Tryz.prog.cellsOf 27))=some y0:=hg 0 _ rfl;have h1:DataW.trod enc Tryz.prog w 0 spare held n 72 (([a,b,c].drop 1).take (Tryz.prog.cellsOf 72))=some y1:=hg 1 _ rfl;have h2:DataW.trod enc Tryz.prog w 0 spare held n 3 (([a,b,c].drop 2).take (Tryz.prog.cellsOf 3))=some y2:=hg 2 _ rfl;rw[Pz]at h0;rw[XX]at h1;rw[Py]at h2;obtain⟨rv,roots,e0,hr,hbr,_⟩:=xy h0;obtain⟨uv,us,e1,hu,hcu,hbu⟩:=JS h1;obtain⟨z,e2,rfl,hw⟩:=DataW.trod_int Tryz.underlying3 h2;obtain rfl:a=rv:=jS e0;obtain rfl:b=uv:=jS e1;obtain rfl:c = .int .i64 z:=jS e2;refine⟨roots,us,z,a,b,[a,b,.int .i64 z],rfl,⟨rfl,hr,hu,hcu,by have:=bounds_i64 hw;omega⟩,?_⟩;have hd:d = .agg [y0.1,y1.1,.lit (.int .i64 z)]:=congrArg Prod.fst he;rw[hd,JU,oq];omega
end
/-- the Job of nothing -/
def Ba:Value:=.agg #[.slice none 0 0,.slice none 0 0,.int .i64 0]
end Op
end Go.Proofs.YtmmmghpimdfleaaGreatDoor
