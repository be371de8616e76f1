/-
  depotlaw19.stocked: a store that takes these records in.
  depotlaw19.awake: of two paths the one that no root reaches is taken out.
  depotlaw19.whole and all (printed by tools/mkwhole.py).
  What a sweep is given, as an argument of a law.
-/
import Derived.Test.YtmmmghpimdfleaaGreatDoorStock
import Derived.Test.YtmmmghpimdfleaaGreatDoorGrpW
import Derived.Test.YtmmmghpimdfleaaGreatDoorGrpZA
import Derived.Test.YtmmmghpimdfleaaGreatDoorGrpY
import Derived.Test.YtmmmghpimdfleaaGreatDoorWOffs
import Derived.Test.YtmmmghpimdfleaaGreatDoorOpen
set_option linter.unusedVariables false
set_option linter.unusedSimpArgs false
namespace Go.Proofs.YtmmmghpimdfleaaGreatDoor.St
open Go.RowKit Mem Tr
open Go.Proofs.YtmmmghpimdfleaaGreatDoor.Own
set_option maxHeartbeats 4000000 in
set_option maxRecDepth 20000 in
theorem stockedC19 (rc st:Nat->BitVec 32) (v:Value) (l:List Rec) (w:World) (hg:Sum.Gl rc st w) (hr:Op.Recs (fun b=>b < w.heap.size) w v l) (hb:Op.bulkR l<=4194304) :
 Calls Tryz.prog 40 #[v] w (PostStock w (stockF rc st [] l)):=by
 obtain ⟨ao,cap,rfl,hlc,hcm,hel⟩:=id hr;have HR:=Lib.hid hr;have HB:=Lib.hid hb;have HG:=Lib.hid hg;have hll:=bulkR_len l;have hnl:l.length<=4194304:=(by omega);obtain ⟨n,hn⟩:∃n,l.length=n:=⟨_,rfl⟩;rw [hn] at hnl ⊢;have HN:=Lib.hid hn;clear hr hb hg hlc hcm hel hll hn
 go_enter Tryz.func40,Tryz.ntmps40
 go_wp2_with fail;refine (newC w).mono ?_;rintro e w1 ⟨M,F,s,rfl,h1,hMF,b1⟩;have H1:=Lib.hid h1;have HMF:=Lib.hid hMF;clear h1 hMF
 go_wp2_with fail
 go_loopw [5,11] (fun _ i wr=>∃k:Nat,k<=n/\i = .int .i64 k/\Hid (∃M' F',Is M' F' wr s (stockF rc st [] (l.take k))/\∀b,M' b∨F' b->w.heap.size<=b)/\Below w.heap.size w wr) (fun _ i _=>n - (intOf i).toNat)
 case atStart=>exact ⟨0,Nat.zero_le _,rfl,Lib.hid ⟨M,F,H1.out,HMF.out⟩,b1⟩
 case round =>
  obtain ⟨k,hk,rfl,hst,br⟩:=hrel;by_cases hlt:k < n
  · have hkl:k < l.length:=(by rw [HN.out];exact hlt);obtain ⟨a2,c2,hv2,_,_,hel⟩:=HR.out.below br;rcases hel with h0 | ⟨rb,ro,ha,_,hel⟩
    · rw [h0] at hkl;simp at hkl
    injection hv2 with e1 e2 e3;rw [ha] at e1;subst e1;clear e2 e3;obtain ⟨cs,hrg,hrec⟩:=hel k hkl;have hcl:=hrec.length;have hoc:=Tab.recOne hrec;have HREC:=Lib.hid hrec;have e0:(0:Int)<=(k:Int):=Int.natCast_nonneg _;have e1:(k:Int) < (n:Int):=(by omega);clear hel hrec ha
    go_wp2_with (first
     | (refine wpList_load_mid rfl 31 _ (by rfl) rb (ro+k*39) (by rfl) cs _ hrg Tryz.underlying31 rfl (by rw [hcl];kernel_rfl) ?_)
     | (refine wpList_store_mid (by rfl) 31 _ _ (by rfl) wr.heap.size 0 cs.toArray (by rfl) (by rfl) ?h4 ?h5 ?h6 ?_;rotate_right;refine Mem.named ?_;intro W hW;have hrg2:=stash_range hW hcl.symm)
     | (refine wpList_load_mid rfl 31 _ (by rfl) wr.heap.size 0 (by rfl) cs _ hrg2 Tryz.underlying31 rfl (by rw [hcl];kernel_rfl) ?_))
    case h4=>first | exact (Bx.new wr Ins.zeroRec.cells 31).there 39 rfl | exact (Bx.new wr Ins.zeroRec.cells 31).there _ (by rw [show cs.toArray.size=39 by simpa using hcl];rfl)
    case h5=>first | exact infoEx | (rw [List.size_toArray,hcl];kernel_rfl)
    case h6=>first | exact hoc | exact all_oneCell_toArray hoc
    obtain ⟨M',F',his,hM'⟩:=hst.out;have bW:=stash hW;have BW:=br.trans (bW.mono br.size);have hS:=stk rc st (l.take k) (by have:=bulkR_take l k;have:=HB.out;omega);have hlen:=hS.len;rw [List.length_take] at hlen;have HNEXT:=Lib.hid (stockF_take (rc:=rc) (st:=st) [] l k hkl);have HM':=Lib.hid hM';have hltM:=his.lt;have hbk:l[k].bulk<=4194304:=(by have:=bulkR_mem (List.getElem_mem hkl);have:=HB.out;omega);clear hrg hrg2 hW;refine (insertC rc st M' F' (fun b=>b < w.heap.size) s (stockF rc st [] (l.take k)) l[k] cs W (his.below bW) (HG.out.below BW) (HREC.out.below bW) (fun b hb=>Nat.lt_of_lt_of_le hb BW.size) hS.good hbk (by omega)).mono ?_;rintro e w2 ⟨rfl,M2,F2,hi2,kp2,hM2,hF2⟩;have HI2:=Lib.hid hi2;have B2:=BW.trans (kp2.below BW.size (fun i hi hm=>by have:=HM'.out i (.inl hm);omega));have HMM:=Lib.hid (show ∀b,M2 b∨F2 b->w.heap.size<=b from fun b hb=>by
     have hz:=BW.size;rcases hb with h | h
     · rcases hM2 b h with h | h
       · exact HM'.out b (.inl h)
       · omega
     · rcases hF2 b h with h | h
       · exact HM'.out b (.inr h)
       · omega)
    clear hi2 his hM' kp2 hM2 hF2 hltM hst
    go_wp2_with fail
    go_roundw
    case rel=>exact ⟨k+1,by omega,by go_num,Lib.hid ⟨M2,F2,by rw [HNEXT.out];exact HI2.out,HMM.out⟩,B2⟩
    case measure=>simp [intOf];omega
  · obtain rfl:k=n:=(by omega)
    go_wp2_with fail
    go_ret;obtain ⟨M',F',hi,hM'⟩:=hst.out;rw [List.take_of_length_le (by rw [HN.out];exact Nat.le_refl _)] at hi;exact ⟨M',F',s,rfl,hi,hM',br⟩
end Go.Proofs.YtmmmghpimdfleaaGreatDoor.St

namespace Go.Proofs.YtmmmghpimdfleaaGreatDoor.St
open Go.RowKit Mem Tr
open Go.Proofs.YtmmmghpimdfleaaGreatDoor.Own
open Go.Proofs.YtmmmghpimdfleaaGreatDoor.Swp
theorem next_some {best:Bst} {D:List ByteArray} {want:Int} {rs:List Rec} {out:List ByteArray} {fr:Int} {r:Rec} (hf:fr < want) (hp:pick best rs D=some r):next best D want ⟨rs,out,fr⟩=some ⟨Sp.cut Rec.path rs r.path,out ++ [r.path],fr+r.size⟩:=by
 unfold next;rw [if_pos (show (⟨rs,out,fr⟩:At).freed < want from hf),show pick best (⟨rs,out,fr⟩:At).rs D=some r from hp]
theorem next_none {best:Bst} {D:List ByteArray} {want:Int} {rs:List Rec} {out:List ByteArray} {fr:Int} (hf:¬fr < want):next best D want ⟨rs,out,fr⟩=none:=by
 unfold next;rw [if_neg (show ¬(⟨rs,out,fr⟩:At).freed < want from hf)]
theorem itN_first (best:Bst) (D:List ByteArray) (want:Int) (s:At):itN best D want s 1=next best D want s:=rfl
theorem fin_one {best:Bst} {D:List ByteArray} {rs:List Rec} {r:Rec} {f:At} (hp:pick best rs D=some r) (hz:r.size=120) (h:Fin best D 1 rs f):f.out = [r.path]/\f.freed=120/\f.rs=Sp.cut Rec.path rs r.path:=by
 obtain ⟨n,h1,h2⟩:=h;have hn:=next_some (out:=[]) (fr:=0) (want:=1) (by decide) hp;rw [hz,List.nil_append,Int.zero_add] at hn;have e:=itN_one h1 h2 (m:=1) ((itN_first _ _ _ _).trans hn) (next_none (by decide));subst e;exact ⟨rfl,rfl,rfl⟩
def dirT:Tree:=⟨3,false,⟨#[]⟩,.nil⟩
theorem code_d:Sum.codeOf dirT=0:=by kernel_rfl
section
variable (rc st : Nat → BitVec 32)
def rd:Rec:=addRec rc st ⟨#[98]⟩ dirT []
theorem path_nd:(rp rc st).path≠(rd rc st).path:=Pok.makeS_ne rc st _ _ _ _ 97 98 (by decide)
theorem get_pd:Sp.get Rec.path [rp rc st] (rd rc st).path=none:=by
 unfold Sp.get;rw [List.find?_cons_of_neg (by simpa using path_nd rc st)];rfl
theorem ins_d:Sto.insE rc st [rp rc st] (rd rc st)=0:=by
 unfold Sto.insE;rw [if_pos (show Sto.validE rc st (rd rc st)=0 from valid_add rc st code_d lab_b refs_nil)];have hl:Sto.lacks [rp rc st] (rd rc st)=false:=by
  unfold Sto.lacks;rw [List.any_eq_false];intro x hx;have:x∈([]:List ByteArray):=hx;cases this
 rw [hl,get_pd];rfl
def twoD:List Rec:=Sp.put Rec.path [rp rc st] (rd rc st)
theorem add_d:addE rc st [rp rc st] ⟨#[98]⟩ dirT []=0/\addS rc st [rp rc st] ⟨#[98]⟩ dirT []=twoD rc st/\addP rc st [rp rc st] ⟨#[98]⟩ dirT []=(rd rc st).path:=by
 have hm:=make_ok lab_b refs_nil;have hE:addE rc st [rp rc st] ⟨#[98]⟩ dirT []=0:=(by unfold addE;rw [if_pos code_d,if_pos hm];exact ins_d rc st);refine ⟨hE,?_,?_⟩
 · unfold addS;rw [if_pos ⟨code_d,hm⟩];unfold Sto.insS;rw [if_pos (show Sto.insE rc st [rp rc st] (addRec rc st ⟨#[98]⟩ dirT [])=0 from ins_d rc st)];rw [show (addRec rc st ⟨#[98]⟩ dirT [])=rd rc st from rfl,get_pd];rfl
 · unfold addP;rw [if_pos hE];rfl
theorem mem_twoD {r:Rec}:r∈twoD rc st↔r=rd rc st∨r=rp rc st:=by
 unfold twoD;rw [Sp.mem_put];simp
theorem twoD_len:(twoD rc st).length=2:=by unfold twoD;rw [Sp.put_length];rfl
theorem good_twoD:Sto.Good rc st (twoD rc st):=by
 have h:=Sto.good_ins (r:=rd rc st) (good_one rc st) (by
  unfold Rec.bulk;rw [show (rd rc st).path.size=46+1 from makeS_size rc st _ _ _];show 46+1+dirT.bulk+bulks []<=_;decide)
 unfold Sto.insS at h;rw [if_pos (ins_d rc st),get_pd] at h;exact h
theorem refs_twoD {r:Rec} (h:r∈twoD rc st):r.refs = []:=by
 rcases (mem_twoD rc st).1 h with rfl | rfl <;> rfl
theorem has_d:Sto.has (twoD rc st) (rd rc st).path=true:=Sto.has_of_mem (good_twoD rc st).rise ((mem_twoD rc st).2 (.inl rfl))
theorem has_p:Sto.has (twoD rc st) (rp rc st).path=true:=Sto.has_of_mem (good_twoD rc st).rise ((mem_twoD rc st).2 (.inr rfl))
theorem lives_d {x:ByteArray}:Lives (twoD rc st) [(rd rc st).path] x↔x=(rd rc st).path:=by
 unfold Lives there;rw [List.filter_cons_of_pos (has_d rc st)];constructor
 · intro h
   induction h with
   | root hm=>simpa using hm
   | step _ hr hq _=>rw [refs_twoD rc st hr] at hq;cases hq
 · rintro rfl;exact .root (by simp)
theorem dead_d {x:ByteArray}:x∈deadL (twoD rc st) [(rd rc st).path]↔x=(rp rc st).path:=by
 rw [mem_dead,lives_d];constructor
 · rintro ⟨⟨r,hr,rfl⟩,hne⟩;rcases (mem_twoD rc st).1 hr with rfl | rfl
   · exact absurd rfl hne
   · rfl
 · rintro rfl;exact ⟨⟨_,(mem_twoD rc st).2 (.inr rfl),rfl⟩,path_nd rc st⟩
theorem refd_d (rs:List Rec) (p:ByteArray) (h:∀r∈rs,r.refs = []):refd rs p = []:=by
 unfold refd;rw [List.map_eq_nil_iff,List.filter_eq_nil_iff];intro r hr;unfold refers;rw [h r hr];simp
theorem free_p:free (twoD rc st) (rp rc st).path=true:=by
 unfold free;rw [has_p,refd_d _ _ (fun r h=>refs_twoD rc st h)];rfl
theorem size_p:(rp rc st).size=120:=by
 show ((Sum.bytesOf (leafT ⟨#[120]⟩)).length:Int)=120;have h:(Sum.bytesOf (leafT ⟨#[120]⟩)).length=120:=(by kernel_rfl);rw [h];rfl
/-- the sweep of the chapter's question -/
theorem fin_d {best:Bst} {f:At} (h:Fin best (deadL (twoD rc st) [(rd rc st).path]) 1 (twoD rc st) f):f.out = [(rp rc st).path]/\f.freed=120/\f.rs=Sp.cut Rec.path (twoD rc st) (rp rc st).path:=by
 have hp:pick best (twoD rc st) (deadL (twoD rc st) [(rd rc st).path])=some (rp rc st):=by
  cases hh:pick best (twoD rc st) (deadL (twoD rc st) [(rd rc st).path]) with
  | none =>
   have:=pick_none hh (rp rc st).path ((dead_d rc st).2 rfl);rw [free_p] at this;cases this
  | some r =>
   obtain ⟨m1,m2,_⟩:=pick_some hh;have e:=(dead_d rc st).1 m2;rcases (mem_twoD rc st).1 m1 with rfl | rfl
   · exact absurd e.symm (path_nd rc st)
   · rfl
 exact fin_one hp (size_p rc st) h
theorem small_d:Small (twoD rc st):=by
 intro r hr;rcases (mem_twoD rc st).1 hr with rfl | rfl
 · show 0<=((Sum.bytesOf dirT).length:Int)/\((Sum.bytesOf dirT).length:Int)<=1073741824;have h:(Sum.bytesOf dirT).length<=1073741824:=of_decide_eq_true (by kernel_rfl);omega
 · rw [size_p];decide
end
set_option maxRecDepth 20000 in
set_option maxHeartbeats 4000000 in
theorem awakeC19 (rc st:Nat->BitVec 32) (w:World) (hg:Sum.Gl rc st w):Calls Tryz.prog 41 #[] w fun e w'=>e = .returned (.bool true)/\Below w.heap.size w w':=by
 have HG:=Lib.hid hg;clear hg
 go_enter Tryz.func41,Tryz.ntmps41
 go_wp2_with fail;refine (newC w).mono ?_;rintro e w1 ⟨M,F,s,rfl,h1,hMF,b1⟩;have H1:=Lib.hid h1;have HMF:=Lib.hid hMF;clear h1 hMF
 go_wp2_with fail;refine (addC rc st M F (fun _=>False) (fun _=>False) s [] ⟨#[97]⟩ (leafT ⟨#[120]⟩) [] (.slice none 0 0) (.slice none 0 0) w1 H1.out (HG.out.below b1) ?k1 ?k2 (fun _ h=>h.elim) (fun _ h=>h.elim) ?k3 ?k4 ?k5 ?k6 (by simp)).mono ?_
 case k1=>exact ⟨none,0,rfl,Nat.le_refl _,Nat.zero_le _,.inl rfl⟩
 case k2=>exact ⟨none,0,rfl,Nat.le_refl _,Nat.zero_le _,.inl rfl⟩
 case k3=>intro n cap h;cases h;rfl
 case k4=>exact ⟨List.Pairwise.nil,by simp,by simp,by simp⟩
 case k5=>decide
 case k6=>decide
 obtain ⟨x1,x2,x3⟩:=add_p rc st;rw [x1,x2,x3];rintro e w3 ⟨rfl,M2,F2,h3,k3,m3,f3⟩;obtain ⟨p,hp⟩:∃p,(rp rc st).path=p:=⟨_,rfl⟩;rw [hp];have HP:=Lib.hid hp;have H3:=Lib.hid h3;have B3:=b1.trans (k3.below b1.size (fun i hi hm=>by have:=HMF.out i (.inl hm);omega));have HMF2:=Lib.hid (show ∀b,M2 b∨F2 b->w.heap.size<=b from fun b hb=>by
  have hz:=b1.size;rcases hb with h | h
  · rcases m3 b h with h | h
    · exact HMF.out b (.inl h)
    · omega
  · rcases f3 b h with h | h
    · exact HMF.out b (.inr h)
    · omega)
 clear h3 k3 m3 f3 hp x1 x2 x3
 go_wp2_with fail;refine (addC rc st M2 F2 (fun _=>False) (fun _=>False) s [rp rc st] ⟨#[98]⟩ dirT [] (.slice none 0 0) (.slice none 0 0) w3 H3.out (HG.out.below B3) ?q1 ?q2 (fun _ h=>h.elim) (fun _ h=>h.elim) ?q3 (good_one rc st) ?q5 ?q6 (by simp)).mono ?_
 case q1=>exact ⟨none,0,rfl,Nat.le_refl _,Nat.zero_le _,.inl rfl⟩
 case q2=>exact ⟨none,0,rfl,Nat.le_refl _,Nat.zero_le _,.inl rfl⟩
 case q3=>intro n cap h;cases h;rfl
 case q5=>decide
 case q6=>decide
 obtain ⟨y1,y2,y3⟩:=add_d rc st;rw [y1,y2,y3];rintro e w6 ⟨rfl,M3,F3,h6,k6,m6,f6⟩;obtain ⟨q,hq⟩:∃q,(rd rc st).path=q:=⟨_,rfl⟩;rw [hq];have HQ:=Lib.hid hq;have H6:=Lib.hid h6;have B6:=B3.trans (k6.below B3.size (fun i hi hm=>by have:=HMF2.out i (.inl hm);omega));have HMF3:=Lib.hid (show ∀b,M3 b->w.heap.size<=b from fun b h=>by
  have hz:=B3.size;rcases m6 b h with h | h
  · exact HMF2.out b (.inl h)
  · omega)
 clear h6 k6 m6 f6 hq y1 y2 y3
 go_wp2_with fail;refine calls_named fun w7 hw7=>?_
 have hst7:=strs_one w6 q;rw [hw7] at hst7;obtain ⟨b7,x7⟩:=alloc_fact hw7;have l7:=x7.lt;have HST7:=Lib.hid (hst7.sub (S':=fun b=>b < w7.heap.size) (fun b h _=>h));have B7:=B6.trans (b7.mono B6.size);clear hw7 x7 hst7;have hps:∀r∈twoD rc st,r.bulk<=4194304:=(good_twoD rc st).bulk;have hwt:wt0 (twoD rc st)<=2097152:=(by unfold twoD;rw [wt0_put];show 0+0+0<=_;decide);refine (collectC M3 F3 s (twoD rc st) _ [q] (.slice none 0 0) [] 1 w7 (H6.out.below b7) (by rw [twoD_len];decide) (good_twoD rc st).rise hps (small_d rc st) HST7.out (by simp) hwt (good_twoD rc st).closed (Uses.nil _ _) (by simp) (fun x h=>by cases h)).mono ?_;rintro e w8 ⟨f,v,M4,hfin,rfl,hrow,his,kp,hsub⟩;rw [←HQ.out] at hfin;obtain ⟨f1,f2,f3⟩:=fin_d rc st hfin;rw [f1,HP.out] at hrow;rw [f3,HP.out] at his;rw [f2];have hrow:w8.ownsRow w7.heap.size 9 1 v 1 [.string p]:=hrow;obtain ⟨g,cap,rfl⟩:=ownsRow_succ (k:=0) hrow;have c0:w8.cell? ⟨g,0,none⟩=some (.string p):=(by have:=hrow.cells (g:=g) rfl 0 (.string p) rfl;rwa [Addr.add_lit] at this);have B8:=B7.trans (kp.below B7.size (fun i hi hm=>by have:=HMF3.out i hm;omega));have t1:(p.toList == p.toList)=true:=(by simp);have hcl:(Sp.cut Rec.path (twoD rc st) p).length<=1073741824:=Nat.le_trans (List.length_filter_le _ _) (by rw [twoD_len];decide);have HH1:=hasC M4 F3 s (Sp.cut Rec.path (twoD rc st) p) p w8 his hcl;have hf1:Sto.has (Sp.cut Rec.path (twoD rc st) p) p=false:=by
  cases hh:Sto.has (Sp.cut Rec.path (twoD rc st) p) p with
  | false=>rfl
  | true=>exact absurd rfl (cut_get.1 hh).2
 rw [hf1] at HH1;have HH2:=fun W hb=>hasC M4 F3 s (Sp.cut Rec.path (twoD rc st) p) q W (his.below hb) hcl
 have hf2:Sto.has (Sp.cut Rec.path (twoD rc st) p) q=true:=cut_get.2 ⟨by rw [←HQ.out];exact has_d rc st,by rw [←HQ.out,←HP.out];exact (path_nd rc st).symm⟩;rw [hf2] at HH2;have H1':=Lib.hid HH1;have H2':=Lib.hid HH2;clear hfin f1 f2 f3 hrow his kp hsub hps hwt HH1 HH2 hf1 hf2 hcl
 go_wp2_with fail;refine H1'.out.mono ?_;rintro e w9 ⟨rfl,b9⟩
 go_wp2_with fail;refine (H2'.out w9 b9).mono ?_;rintro e w10 ⟨rfl,b10⟩
 go_wp2_with fail
 go_ret;exact ⟨rfl,B8.trans ((b9.trans (b10.mono b9.size)).mono B8.size)⟩
end Go.Proofs.YtmmmghpimdfleaaGreatDoor.St

namespace Go.Proofs.YtmmmghpimdfleaaGreatDoor.St
open Go.RowKit Mem Tr
open Go.Proofs.YtmmmghpimdfleaaGreatDoor.Own
theorem fold_zip_aux:∀ (l:List Value) (k:Nat) (a:Array Value),k+l.length<=a.size->∀i:Nat,(List.foldl (fun cs x=>cs.setIfInBounds x.2 x.1) a (l.zipIdx k))[i]? = if k<=i/\i < k+l.length then l[i - k]? else a[i]?
 | [],k,a,_,i=>by rw [if_neg (by simp)];rfl
 | x :: l,k,a,h,i=>by
  rw [List.length_cons] at h;rw [List.zipIdx_cons,List.foldl_cons,fold_zip_aux l (k+1) _ (by rw [Array.size_setIfInBounds];omega) i,List.length_cons];by_cases h1:i=k
  · subst h1;rw [if_neg (by omega),if_pos (by omega),Nat.sub_self,Array.getElem?_setIfInBounds_self_of_lt (by omega)];rfl
  · by_cases h2:k+1<=i/\i < k+1+l.length
    · rw [if_pos h2,if_pos (by omega),show i - k=(i - (k+1))+1 by omega,List.getElem?_cons_succ]
    · rw [if_neg h2,if_neg (by omega),Array.getElem?_setIfInBounds_ne (by omega)]
theorem fold_zip (l:List Value) (a:Array Value) (h:a.size=l.length):List.foldl (fun cs x=>cs.setIfInBounds x.2 x.1) a l.zipIdx=l.toArray:=by
 apply Array.ext_getElem?;intro i;rw [fold_zip_aux l 0 a (by omega) i];by_cases hi:i < l.length
 · rw [if_pos (by omega)];simp
 · rw [if_neg (by omega),Array.getElem?_eq_none (by omega),Array.getElem?_eq_none (by simp;omega)]
/-- the records of a row of blocks of 39 -/
structure Rows39 (S:Nat->Prop) (w:World) (xs:List Value) (l:List Rec):Prop where
 len:xs.length=39*l.length
 at':∀j (h:j < l.length),RecAt S w ((xs.drop (39*j)).take 39) l[j]
theorem Rows39.nil (S:Nat->Prop) (w:World):Rows39 S w [] []:=⟨rfl,fun j h=>absurd h (by simp)⟩
theorem Rows39.ag {S:Nat->Prop} {w w':World} {xs:List Value} {l:List Rec} (h:Rows39 S w xs l) (ha:Ag S w w'):Rows39 S w' xs l:=⟨h.len,fun j hj=>(h.at' j hj).ag ha⟩
theorem Rows39.mono {S S':Nat->Prop} {w:World} {xs:List Value} {l:List Rec} (h:Rows39 S w xs l) (hs:∀b,S b->S' b):Rows39 S' w xs l:=⟨h.len,fun j hj=>(h.at' j hj).sub fun _ _ h=>hs _ h⟩
theorem Rows39.snoc {S:Nat->Prop} {w:World} {xs cs:List Value} {l:List Rec} {r:Rec} (h:Rows39 S w xs l) (hr:RecAt S w cs r):Rows39 S w (xs ++ cs) (l ++ [r]):=by
 have hl:=hr.length;refine ⟨by rw [List.length_append,List.length_append,h.len,hl,List.length_singleton];omega,fun j hj=>?_⟩;rw [List.length_append,List.length_singleton] at hj;by_cases e:j < l.length
 · rw [List.getElem_append_left e,List.drop_append_of_le_length (by rw [h.len];omega),List.take_append_of_le_length (by rw [List.length_drop,h.len];omega)];exact h.at' j e
 · obtain rfl:j=l.length:=(by omega);rw [List.getElem_append_right (by omega),←h.len,List.drop_left,List.take_of_length_le (by omega)]
   simpa using hr
theorem recs_of {B:Nat} {S:Nat->Prop} {w:World} {v:Value} {xs:List Value} {l:List Rec} (h:w.ownsRow B 31 39 v l.length xs) (hx:Rows39 S w xs l) (hS:∀b,v.ownBlock=some b->S b):Op.Recs S w v l:=by
 rcases h.2 with ⟨hv,h0⟩ | ⟨g,cap,cur,hv,hb,hg,hn,hc,hsz,htk⟩
 · obtain rfl:=List.eq_nil_of_length_eq_zero h0;rw [hv];exact ⟨none,0,rfl,Nat.le_refl _,by unfold maxLen;omega,.inl rfl⟩
 · refine ⟨some ⟨g,0,none⟩,cap,hv,hn,hc,.inr ⟨g,0,rfl,hS g (by rw [hv];rfl),fun j hj=>⟨(xs.drop (39*j)).take 39,fun i u hi=>?_,hx.at' j hj⟩⟩⟩;rw [List.getElem?_take] at hi;by_cases e:i < 39
   · rw [if_pos e,List.getElem?_drop] at hi;have h1:=World.ownsRow.cells h (g:=g) (by rw [hv];rfl) (39*j+i) u hi;rw [Nat.zero_add,Nat.mul_comm j 39];unfold Addr.add at h1;split at h1
     · rename_i h0;rw [h0];exact h1
     · simpa using h1
   · rw [if_neg e] at hi;cases hi
end Go.Proofs.YtmmmghpimdfleaaGreatDoor.St
set_option maxRecDepth 20000
namespace Go.Proofs.YtmmmghpimdfleaaGreatDoor.Op
open Go.ChangeShapes Go.WideShapes Go.ChangeAt Go.RowKit Mem Tr
open Go.Proofs.YtmmmghpimdfleaaGreatDoor.Swp (Uses)

section
variable {H : Type} {enc : TypeId × Value → H} {w : World} {spare : Nat → Bool} {held : Bool}
end
end Go.Proofs.YtmmmghpimdfleaaGreatDoor.Op
