/-
  The ak Jf and Cut.
  The ak Cut (printed by tools/zee.py).
  The ak Score and counted, the law's plain (printed by tools/zef.py).
  The ak choice of the next dead path, as plain lists: the program's.
  The ak next (printed by tools/zeg.py).
  The ak Collect (printed by tools/zeh.py).
  depotlaw19.plain: the program's uses as the ak.
  sweep.zaW: a sweep of a fork.
-/
import Derived.Test.YtmmmghpimdfleaaGreatDoorTk
import Derived.Test.YtmmmghpimdfleaaGreatDoorGrpDD
import Derived.Test.YtmmmghpimdfleaaGreatDoorGrpX
import Derived.Test.YtmmmghpimdfleaaGreatDoorGrpZA
set_option linter.unusedVariables false
set_option maxHeartbeats 8000000
set_option linter.unusedSimpArgs false
namespace Go.Proofs.YtmmmghpimdfleaaGreatDoor
namespace uI
open Go.RowKit Mem Tr St kU yL
open Go.Proofs.YtmmmghpimdfleaaGreatDoor.Own
/-- the paths that TU to p, in the list's order -/
def nS(ds:List Rec)(p:ByteArray):List ByteArray:=(ds.filter fun r=>decide (r.path≠p)&&oQ r.refs p).map Rec.path
theorem Jg(ds:List Rec)(p:ByteArray){k:Nat}(h:k<ds.length):nS (ds.take (k+1)) p=nS (ds.take k) p++(if ds[k].path≠p/\oQ ds[k].refs p=true then[ds[k].path]else[]):=by
 rw[List.take_succ_eq_append_getElem h];unfold nS;rw[List.filter_append,List.map_append];congr 1;by_cases h1:ds[k].path≠p/\oQ ds[k].refs p=true
 ·rw[if_pos h1,List.filter_cons,if_pos (by rw[decide_eq_true h1.1,h1.2];rfl)];rfl
 ·rw[if_neg h1];have hfalse:(decide (ds[k].path≠p)&&oQ ds[k].refs p)=false:=by
   cases hx:(decide (ds[k].path≠p)&&oQ ds[k].refs p)
   ·rfl
   ·rw[Bool.and_eq_true,decide_eq_true_eq]at hx;exact absurd hx h1
  rw[List.filter_cons,if_neg (by rw[hfalse];decide)];rfl
def jd(ds:List Rec)(p:ByteArray):List Rec:=ds.filter fun r=>decide (r.path≠p)
theorem Jh(ds:List Rec)(p:ByteArray){k:Nat}(h:k<ds.length):jd (ds.take (k+1)) p=jd (ds.take k) p++(if ds[k].path≠p then[ds[k]]else[]):=by
 rw[List.take_succ_eq_append_getElem h];unfold jd;rw[List.filter_append];congr 1;by_cases h1:ds[k].path≠p
 ·rw[if_pos h1];simp[h1]
 ·rw[if_neg h1];simp at h1;simp[h1]
theorem o8.cut{rs ds:List Rec}(h:o8 rs ds)(hr:Sp.bf Rec.path rs)(hinj:∀a∈ds,∀b∈ds,a.path=b.path->a=b)(p:ByteArray):(∀x,x∈Sp.cut Rec.path rs p↔x∈jd ds p):=fun x=>by
 unfold Sp.cut jd;rw[List.mem_filter,List.mem_filter,h.mem]
def Nl(w:World)(ds:List Rec)(p:ByteArray)(e:Ending)(w':World):Prop :=
 ∃v L,e = .returned (.tuple #[v,.int .i64 0])/\w'.ownsRow w.heap.size 9 1 v L.length (L.map .string)/\wH.yK L/\(∀q,q∈L↔q∈nS ds p)/\Below w.heap.size w w'
set_option maxRecDepth 20000 in
theorem Np(v:Value)(ds:List Rec)(p:ByteArray)(w:World)(h:mY w v ds)(hn:ds.length<=1048576)(hp:aJ.has ds p=true)(hbd:∀x∈ds,x.bulk<=4194304) :
 Calls Tryz.prog 104 #[v,.string p] w (Nl w ds p):=by
 have HD:=yH h;have PM:=yH hbd;obtain⟨Fj,cap0,rfl,_,_,_⟩:=h.1;obtain⟨d,hd⟩:∃d,ds.length=d:=⟨_,rfl⟩;have nN:=yH hd;rw[hd]at hn HD ⊢;unfold aJ.has at hp;obtain⟨r0,hr0⟩:=Option.isSome_iff_exists.1 hp;obtain⟨z,_,hz,_⟩:=gX hr0;have hF:=wI _ _ ds p w HD.out.1 (by omega);rw[hz]at hF;have HF:=yH hF;have z0:¬(z:Int)<0:=(by omega);obtain⟨i0,hi,hz0,hz1,hz2⟩:=info_parts Make.bI;clear h hp hr0 hz hbd hd hF
 go_enter Tryz.func104,Tryz.ntmps104
 go_wp2_with fail;refine HF.out.mono ?_;rintro e w3 ⟨rfl,hw⟩;rw[hw];clear hw w3 HF
 go_wp2_with fail
 go_loopw [6,7] (fun o i wr=>∃(k g:Nat) (a:Option Addr) (c:Nat) (gl:List ByteArray),k<=d/\i = .int .i64 k/\o = .slice a g c/\Hid (gl.length=g)/\Hid (wr.ownsRow w.heap.size 9 1 (.slice a g c) g (gl.map .string))/\Hid (gl=nS (ds.take k) p)/\g<=k/\Below w.heap.size w wr) (fun _ i _=>d-(intOf i).toNat)
 case atStart=>exact⟨0,0,none,0,[],Nat.zero_le _,rfl,rfl,yH rfl,yH (by simpa using World.ownsRow_nil _ _ _ _),yH rfl,Nat.zero_le _,Below.refl _ _⟩
 case round =>
  obtain⟨k,g,a,c,gl,hk,rfl,rfl,iU,HOW,kF,hgk,hb⟩:=hrel;have e0:(0:Int)<=(k:Int):=Int.natCast_nonneg _;by_cases hlt:k<d
  ·have e1:(k:Int)<(d:Int):=(by omega);have hkl:k<ds.length:=(by rw[nN.out];exact hlt);have HT:=yH (Jg ds p hkl);have hbk:=PM.out _ (List.getElem_mem hkl);obtain⟨ad,MQ,hvd,_,_,hkd⟩:=HD.out.1;injection hvd with hv1 hv2 hv3;subst hv1;rcases hkd with h0|⟨sb,so,hsb,hSb,hkd⟩
   ·rw[h0]at hkl;simp at hkl
   subst hsb;obtain⟨oc,hrg,hrec⟩:=hkd k hkl;have pR:wr.rangeAt sb (so+k*39) oc:=St.fD hrg hb;obtain⟨kv,Ym,hoe,QE,_,hrefs⟩:=hrec;obtain⟨r,hr⟩:∃r,ds[k]=r:=⟨_,rfl⟩;rw[hr]at hoe hrefs hbk HT;have c0:wr.cell? ⟨sb,so+k*39,none⟩=some (.string r.path):=(by have:=pR 0 (.string r.path) (by rw[hoe];rfl);simpa using this);have c5:wr.cell? ⟨sb,so+k*39+5,none⟩=some Ym:=pR 5 Ym (by rw[hoe];rfl);have hread:=yH (hrefs.below hb).reads;obtain⟨dL,cap2,gY,_,_,_⟩:=hrefs;subst gY;have hrl:r.refs.length<=1099511627776:=(by have:=dI r.refs;unfold Rec.bulk at hbk;omega);have hsz:=hb.size;clear hv2 hv3 hSb pR hbk;by_cases qN:r.path=p
   ·have tt:(r.path.toList==p.toList)=true:=yL.yM qN;have oN:=yH (show nS (ds.take (k+1)) p=gl by rw[HT.out,if_neg (fun h=>h.1 qN),List.append_nil,kF.out]);clear qN
    go_wp2_with fail
    go_roundw
    case rel=>exact⟨k+1,g,_,c,gl,by omega,by go_num,rfl,iU,HOW,yH oN.out.symm,by omega,hb⟩
    case measure=>simp[intOf];omega
   ·have tt:(r.path.toList==p.toList)=false:=yL.tZ qN;have HHC:=yH (show ∀W,Below wr.heap.size wr W->Calls Tryz.prog 134 #[.slice dL r.refs.length cap2,.string p] W fun e w'=>e = .returned (.bool (oQ r.refs p))/\w'=W from fun W hb=>vT _ r.refs p W (hread.out.below hb) hrl);by_cases hin:oQ r.refs p=true
    ·have oN:=yH (show nS (ds.take (k+1)) p=gl ++ [r.path] by rw[HT.out,if_pos ⟨qN,hin⟩,kF.out]);rw[hin]at HHC;have hown2:=HOW.out;have o9:=yH hown2;clear qN hin
     go_wp2_with fail;refine(HHC.out wr (Below.refl _ _)).mono ?_;rintro e w5 ⟨rfl,hw⟩;rw[hw];clear hw w5;obtain⟨q,hq⟩:∃q,r.path=q:=⟨_,rfl⟩;rw[hq]at c0 oN;clear hq
     go_wp2_with (at_builtin;go_loud (refine wpList_append_own _ rfl _ _ 27 rfl w.heap.size 9 i0 (.string ⟨#[]⟩) 1 16 Tryz.underlying27 hi hz0 hz1 hz2 rfl (by decide) _ _ _ rfl (hown2.alloc _) ⟨wr.heap.size,0,none⟩ 1 1 [.string q] rfl rfl (cell_one_new _ _ _) (by simp[Value.oneCell']) (by unfold maxLen;omega) (by omega) (by simp;omega) ?_;intro v' w8 aV hgrow hnil;have pg:=yH aV;have rM:=yH hgrow;clear aV hgrow hnil))
     have hba:Below wr.heap.size wr (wr.alloc (.cells #[.string q] 9)):=(Below.refl _ wr).alloc (Nat.le_refl _) _;have uZ:=(hb.trans (hba.mono hb.size)).grown rM.out (by have:=hba.size;omega) (fun g e=>(o9.out.lt g e).1);obtain⟨a8,c8,rfl⟩:=Tab.aO pg.out;clear hown2;have HL2:=yH (show(gl ++ [q]).length=g+1 by rw[List.length_append,iU.out];rfl)
     go_roundw
     case rel=>exact⟨k+1,g+1,a8,c8,gl ++ [q],by omega,by go_num,rfl,HL2,yH (by rw[List.map_append];exact pg.out),yH oN.out.symm,by omega,uZ⟩
     case measure=>simp[intOf];omega
    ·have hin2:oQ r.refs p=false:=(by cases hx:oQ r.refs p;rfl;exact absurd hx hin);have oN:=yH (show nS (ds.take (k+1)) p=gl by rw[HT.out,if_neg (fun h=>hin h.2),List.append_nil,kF.out]);rw[hin2]at HHC;clear qN hin hin2
     go_wp2_with fail;refine(HHC.out wr (Below.refl _ _)).mono ?_;rintro e w5 ⟨rfl,hw⟩;rw[hw];clear hw w5
     go_wp2_with fail
     go_roundw
     case rel=>exact⟨k+1,g,_,c,gl,by omega,by go_num,rfl,iU,HOW,yH oN.out.symm,by omega,hb⟩
     case measure=>simp[intOf];omega
  ·obtain rfl:k=d:=(by omega);have HT:=yH (show gl=nS ds p by have h:=kF.out;rwa[List.take_of_length_le (by rw[nN.out];exact Nat.le_refl _)]at h);have hst:=yH ((Strs.bU (l:=gl) (by rw[iU.out];exact HOW.out)).sub (S':=fun b=>b<wr.heap.size) (fun q h1 _=>h1))
   go_wp2_with fail;refine(Ja.Aj _ gl wr hst.out (by rw[iU.out];omega)).mono ?_;rintro e w9 ⟨out,⟨v9,rfl,ho,MO⟩,hris,hm⟩;have HO:=yH (jT ho hb.size);have Jb:=yH hris;have VO:=yH hm;have hbb:=hb.trans (MO.mono hb.size);clear ho MO hris hm
   go_wp2_with fail
   go_ret2;exact⟨v9,out,rfl,HO.out,Jb.out,fun q=>by rw[←HT.out];exact VO.out q,hbb⟩
end uI

namespace uI
open Go.RowKit Mem Tr St kU yL
open Go.Proofs.YtmmmghpimdfleaaGreatDoor.Own
def Nq(S:Nat->Prop)(w:World)(n:Int)(ds:List Rec)(e:Ending)(w':World):Prop:=∃v',e = .returned (.tuple #[v',.int .i64 n])/\Op.jR (fun b=>S b∨(w.heap.size<=b/\b<w'.heap.size)) w' v' ds/\(∀n c,v' = .slice none n c->c=0)/\Below w.heap.size w w'
def qV(S:Nat->Prop)(w:World)(ds:List Rec)(p:ByteArray)(e:Ending)(w':World):Prop:=Nq S w (if nS ds p = []then 0 else 170) (if nS ds p = []then jd ds p else ds) e w'
set_option maxRecDepth 20000 in
theorem zaX(S:Nat->Prop)(v:Value)(ds:List Rec)(p:ByteArray)(w:World)(hs:Op.jR S w v ds)(hcap:∀n c,v = .slice none n c->c=0)(hS:∀b,S b->b<w.heap.size)(hn:ds.length<=1048576)(hp:aJ.has ds p=true)(hbd:∀x∈ds,x.bulk<=4194304) :
 Calls Tryz.prog 61 #[v,.string p] w (qV S w ds p):=by
 have h:mY w v ds:=⟨hs.mono hS,hcap⟩;have QN:=Np v ds p w h hn hp hbd;have HD:=yH h;have PM:=yH hbd;have PO:=yH hs;have HCAP:=yH hcap;have HSS:=yH hS;obtain⟨Fj,cap0,rfl,_,_,_⟩:=h.1;obtain⟨d,hd⟩:∃d,ds.length=d:=⟨_,rfl⟩;have nN:=yH hd;rw[hd]at hn HD QN PO HCAP ⊢;have HF:=yH QN;obtain⟨i0,hi,hz0,hz1,hz2⟩:=info_parts Ins.fO;clear h hs hcap hS hp hbd hd QN
 go_enter Tryz.func61,Tryz.ntmps61
 go_wp2_with fail;refine HF.out.mono ?_;rintro e w1 ⟨v1,L,rfl,ho,_,hmem,b1⟩;clear HF;obtain⟨a1,c1,rfl⟩:=Tab.aO ho;obtain⟨n,hnL⟩:∃n,L.length=n:=⟨_,rfl⟩;have HE:=yH (show nS ds p = []↔n=0 from by
  rw[←hnL];constructor
  ·intro h0;refine List.length_eq_zero_iff.2 (List.eq_nil_iff_forall_not_mem.2 fun q hq=>?_);have:=(hmem q).1 hq;rw[h0]at this;cases this
  ·intro h0;have hL:=List.length_eq_zero_iff.1 h0;refine List.eq_nil_iff_forall_not_mem.2 fun q hq=>?_
   have:=(hmem q).2 hq;rw[hL]at this;cases this)
 rw[hnL];clear ho hmem hnL;have QO:=b1.size;by_cases hn0:n=0
 case neg =>
  have hp0:(0:Int)<(n:Int):=(by omega);have hp1:0<n:=(by omega);have HR:=yH (show ¬nS ds p = []from fun h=>hn0 (HE.out.1 h));clear hn0
  go_wp2_with fail
  go_ret2;unfold qV;rw[if_neg HR.out]
  first|rw[if_neg HR.out]|skip
  exact⟨_,rfl,(PO.out.below b1).mono (fun b h=>.inl h),HCAP.out,b1⟩
 have HR:=yH (HE.out.2 hn0);subst hn0;clear HE
 go_wp2_with fail
 go_loopw [8,9] (fun o i wr=>∃(k g:Nat) (a:Option Addr) (c:Nat),k<=d/\i = .int .i64 k/\o = .slice a g c/\Hid ((jd (ds.take k) p).length=g)/\Hid (∃xs,wr.ownsRow w1.heap.size 31 39 (.slice a g c) g xs/\dG S wr xs (jd (ds.take k) p))/\g<=k/\Hid (∀m q,(Value.slice a g c) = .slice none m q->q=0)/\Below w.heap.size w wr/\Below w1.heap.size w1 wr) (fun _ i _=>d-(intOf i).toNat)
 case atStart=>exact⟨0,0,none,0,Nat.zero_le _,rfl,rfl,yH rfl,yH ⟨[],World.ownsRow_nil _ _ _ _,by rw[List.take_zero];exact dG.nil _ _⟩,Nat.zero_le _,yH (fun m q e=>by injection e with _ _ h3;exact h3.symm),b1,Below.refl _ _⟩
 case round =>
  obtain⟨k,g,a,c,hk,rfl,rfl,iU,HOW,hgk,Ak,hb,hb1⟩:=hrel;have e0:(0:Int)<=(k:Int):=Int.natCast_nonneg _;by_cases hlt:k<d
  ·have e1:(k:Int)<(d:Int):=(by omega);have hkl:k<ds.length:=(by rw[nN.out];exact hlt);have HT:=yH (Jh ds p hkl);obtain⟨ad,MQ,hvd,_,_,hkd⟩:=PO.out;injection hvd with hv1 hv2 hv3;subst hv1;rcases hkd with h0|⟨sb,so,hsb,hSb,hkd⟩
   ·rw[h0]at hkl;simp at hkl
   subst hsb;obtain⟨oc,hrg,hrec⟩:=hkd k hkl;have pR:wr.rangeAt sb (so+k*39) oc:=St.fD hrg hb;have nC:=yH (hrec.below hb);have hol:=hrec.length;have hoc:=Tab.dX hrec;obtain⟨kv,Ym,hoe,QE,_,hrefs⟩:=hrec;obtain⟨r,hr⟩:∃r,ds[k]=r:=⟨_,rfl⟩;rw[hr]at hoe nC HT;have c0:wr.cell? ⟨sb,so+k*39,none⟩=some (.string r.path):=(by have:=pR 0 (.string r.path) (by rw[hoe];rfl);simpa using this);have hsz:=hb.size;have hsz1:=hb1.size;clear hv2 hv3 hSb hoe;by_cases qN:r.path=p
   ·have tt:(r.path.toList==p.toList)=true:=yL.yM qN;have oN:=yH (show jd (ds.take (k+1)) p=jd (ds.take k) p by rw[HT.out,if_neg (fun h=>h qN),List.append_nil]);clear qN
    go_wp2_with fail
    go_roundw
    case rel=>exact⟨k+1,g,_,c,by omega,by go_num,rfl,yH (by rw[oN.out];exact iU.out),yH (by rw[oN.out];exact HOW.out),by omega,Ak,hb,hb1⟩
    case measure=>simp[intOf];omega
   ·have tt:(r.path.toList==p.toList)=false:=yL.tZ qN;have oN:=yH (show jd (ds.take (k+1)) p=jd (ds.take k) p ++ [r] by rw[HT.out,if_pos qN]);obtain⟨xs,hown,hrows⟩:=HOW.out;have HO:=yH hown;have HXS:=yH hrows;have hu:=Tryz.underlying31;clear qN HOW hrows
    go_wp2_with (first
     | (refine wpList_load_mid rfl 31 _ (by rfl) sb (so+k*39) (by rfl) oc _ pR hu rfl (by rw[hol];kernel_rfl) ?_)
     | (at_builtin;rw[qO oc _ (by rw[hol];rfl)];go_loud (refine wpList_append_own_at _ rfl _ _ 22 rfl w1.heap.size 31 i0 Ins.ah 39 136 Tryz.underlying22 hi hz0 hz1 hz2 rfl (by decide) _ _ _ rfl (hown.alloc _) ⟨wr.heap.size,0,none⟩ 1 1 oc rfl (by rw[hol]) (by have:=World.news_of_block (cs:=oc.toArray) (t:=31) (fr:=(0,0)) (heap_alloc_new wr _);simpa using this) hoc (by unfold maxLen;omega) (by omega) (by simp;omega) ?_;intro v' w9 fV hgrow hnil hat;obtain⟨g',cap',rfl⟩:=ownsRow_succ fV;have HN9:=yH fV;have HG9:=yH hgrow;clear fV hgrow hnil hat)))
    have hba:Below wr.heap.size wr (wr.alloc (.cells oc.toArray 31)):=(Below.refl _ wr).alloc (Nat.le_refl _) _;have hold:∀b,(Value.slice a g c).ownBlock=some b->w1.heap.size<=b/\b<wr.heap.size:=fun b e=>HO.out.lt b e
    have k9:Kp (fun b=>(Value.slice a g c).ownBlock=some b) wr w9:=(Kp.of_below hba).then (Kp.fA HG9.out (fun r e _=>e));have B9:Below w.heap.size w w9:=hb.trans (k9.below hb.size (fun i hi e=>by have:=(hold i e).1;omega));have B91:Below w1.heap.size w1 w9:=hb1.trans (k9.below hb1.size (fun i hi e=>by have:=(hold i e).1;omega));have hag:Ag S wr w9:=Ag.bg k9 (fun b _ hS hM=>by have h0:b<w.heap.size:=HSS.out b hS;have:=(hold b hM).1;omega);have bF:=yH (show ∃ys,w9.ownsRow w1.heap.size 31 39 (.slice (some ⟨g',0,none⟩) (g+1) cap') (g+1) ys/\dG S w9 ys (jd (ds.take (k+1)) p)from⟨_,HN9.out,by rw[oN.out];exact(HXS.out.ag hag).snoc (nC.out.ag hag)⟩);have HL9:=yH (show(jd (ds.take (k+1)) p).length=g+1 by rw[oN.out,List.length_append,iU.out];rfl);clear hown hba hold k9 hag
    go_roundw
    case rel=>exact⟨k+1,g+1,_,_,by omega,by go_num,rfl,HL9,bF,by omega,yH (fun m q e=>by cases e),B9,B91⟩
    case measure=>simp[intOf];omega
  ·obtain rfl:k=d:=(by omega);have hT:ds.take k=ds:=List.take_of_length_le (by rw[nN.out];exact Nat.le_refl _);rw[hT]at iU HOW
   go_wp2_with fail
   go_ret2;unfold qV;rw[if_pos HR.out]
   first|rw[if_pos HR.out]|skip
   obtain⟨xs,hown,hrows⟩:=HOW.out;have hsz:=hb.size;refine⟨_,rfl,?_,Ak.out,hb⟩;have h1:=hown;rw[←iU.out]at h1;have h2:=Ho h1 (hrows.mono (S':=fun b=>S b∨(w.heap.size<=b/\b<wr.heap.size)) (fun b hb=>.inl hb)) (fun b hb=>.inr ⟨Nat.le_trans QO (h1.lt b hb).1,(h1.lt b hb).2⟩);rw[iU.out]at h2;exact h2
end uI

namespace uI
open Go.RowKit Mem Tr St kU yL
open Go.Proofs.YtmmmghpimdfleaaGreatDoor.Own
theorem Nr(a0 a1:Int)(w:World)(g0:a0<9223372036854775808)(g1:a1<9223372036854775808) :
 Calls Tryz.prog 136 #[.int .i64 a0,.int .i64 a1] w fun e w'=>e = .returned (.float .f64 (bD a0 a1))/\w'=w:=by
 obtain⟨⟨b,hb,hr⟩,_⟩:=comes a0 a1 g0 g1;clear g0 g1;generalize bD a0 a1=r at *;by_cases h0:a0<0<;>by_cases h1:a1<0
 ·rw[show up a0=0 by unfold up;omega]at hr;rw[show up a1=0 by unfold up;omega]at hb;have ha:=fun w=>run_float_arith (P:=Tryz.prog) w .add 82 .f64 _ _ _ hb
  have hq:=fun w=>run_float_arith (P:=Tryz.prog) w .quo 82 .f64 _ _ _ hr
  clear hb hr
  go_enter Tryz.func136,Tryz.ntmps136
  go_wp2_with fail
  go_ret;exact⟨rfl,rfl⟩
 ·rw[show up a0=0 by unfold up;omega]at hr;rw[show up a1=a1 by unfold up;omega]at hb;have ha:=fun w=>run_float_arith (P:=Tryz.prog) w .add 82 .f64 _ _ _ hb
  have hq:=fun w=>run_float_arith (P:=Tryz.prog) w .quo 82 .f64 _ _ _ hr
  clear hb hr
  go_enter Tryz.func136,Tryz.ntmps136
  go_wp2_with fail
  go_ret;exact⟨rfl,rfl⟩
 ·rw[show up a0=a0 by unfold up;omega]at hr;rw[show up a1=0 by unfold up;omega]at hb;have ha:=fun w=>run_float_arith (P:=Tryz.prog) w .add 82 .f64 _ _ _ hb
  have hq:=fun w=>run_float_arith (P:=Tryz.prog) w .quo 82 .f64 _ _ _ hr
  clear hb hr
  go_enter Tryz.func136,Tryz.ntmps136
  go_wp2_with fail
  go_ret;exact⟨rfl,rfl⟩
 ·rw[show up a0=a0 by unfold up;omega]at hr;rw[show up a1=a1 by unfold up;omega]at hb;have ha:=fun w=>run_float_arith (P:=Tryz.prog) w .add 82 .f64 _ _ _ hb
  have hq:=fun w=>run_float_arith (P:=Tryz.prog) w .quo 82 .f64 _ _ _ hr
  clear hb hr
  go_enter Tryz.func136,Tryz.ntmps136
  go_wp2_with fail
  go_ret;exact⟨rfl,rfl⟩
theorem Ji(us:List (ByteArray × Int))(p:ByteArray){k:Nat}(h:k<us.length):cntF (us.take (k+1)) p=if p=us[k].1 then us[k].2 else cntF (us.take k) p:=by
 rw[List.take_succ_eq_append_getElem h,yO]
set_option maxRecDepth 20000 in
theorem Ns(S:Nat->Prop)(v:Value)(us:List (ByteArray × Int))(p:ByteArray)(w:World)(h:Uses S w v us)(hn:us.length<=1099511627776) :
 Calls Tryz.prog 137 #[v,.string p] w fun e w'=>e = .returned (.int .i64 (cntF us p))/\w'=w:=by
 obtain⟨ao,cap,rfl,_,_,hel⟩:=h;obtain⟨n,hln⟩:∃n,us.length=n:=⟨_,rfl⟩;have HL:=yH hln;have HC:=yH (show ∀j (h:j<us.length),∃b off,ao=some ⟨b,off,none⟩/\w.cell? ⟨b,off+j*2,none⟩=some (.string us[j].1)/\w.cell? ⟨b,off+j*2+1,none⟩=some (.int .i64 us[j].2)from fun j h=>by
  rcases hel with h0|⟨b,off,e,_,h2⟩
  ·subst h0;simp at h
  ·exact⟨b,off,e,h2 j h⟩)
 rw[hln]at hn ⊢;clear hel hln
 go_enter Tryz.func137,Tryz.ntmps137
 go_wp2_with fail
 go_loopw [5,6] (fun c i wr=>∃(k:Nat) (z:Int),k<=n/\i = .int .i64 k/\c = .int .i64 z/\Hid (cntF (us.take k) p=z)/\Hid (w=wr)) (fun _ i _=>n-(intOf i).toNat)
 case atStart=>exact⟨0,0,Nat.zero_le _,rfl,rfl,yH rfl,yH rfl⟩
 case round =>
  obtain⟨k,z,hk,rfl,rfl,HZ,hw⟩:=hrel;obtain rfl:=hw.out;have e0:(0:Int)<=(k:Int):=Int.natCast_nonneg _;by_cases hlt:k<n
  ·have e1:(k:Int)<(n:Int):=(by omega);have hkl:k<us.length:=(by rw[HL.out];exact hlt);have HT:=yH (Ji us p hkl);obtain⟨b,off,rfl,c0,c1⟩:=HC.out k hkl;obtain⟨q,hq⟩:∃q,us[k]=q:=⟨_,rfl⟩;rw[hq]at c0 c1 HT;obtain⟨q1,q2⟩:=q;clear hq hkl;by_cases hp:q1=p
   ·have t1:=yM hp;have HN:=yH (show cntF (us.take (k+1)) p=q2 by rw[HT.out,if_pos hp.symm]);clear hp
    go_wp2_with fail
    go_roundw
    case rel=>exact⟨k+1,q2,by omega,by go_num,rfl,HN,yH (by trivial)⟩
    case measure=>simp[intOf];omega
   ·have t1:=tZ hp;have HN:=yH (show cntF (us.take (k+1)) p=z by rw[HT.out,if_neg (fun e=>hp e.symm),HZ.out]);clear hp
    go_wp2_with fail
    go_roundw
    case rel=>exact⟨k+1,z,by omega,by go_num,rfl,HN,yH (by trivial)⟩
    case measure=>simp[intOf];omega
  ·obtain rfl:k=n:=(by omega);have HN:=yH (show cntF us p=z by have h:=HZ.out;rwa[List.take_of_length_le (by rw[HL.out];exact Nat.le_refl _)]at h)
   go_wp2_with fail
   go_ret;exact⟨by rw[HN.out];rfl,rfl⟩
end uI

namespace uI
open Go.RowKit Mem Tr St kU yL
theorem wP{rs ds:List Rec}(h:o8 rs ds)(p:ByteArray):gZ rs p = []↔nS ds p = []:=by
 unfold gZ nS;rw[List.map_eq_nil_iff,List.map_eq_nil_iff,List.filter_eq_nil_iff,List.filter_eq_nil_iff];constructor
 ·intro h1 x hx;have:=h1 x ((h.mem x).2 hx)
  simpa[fE,oQ]using this
 ·intro h1 x hx;have:=h1 x ((h.mem x).1 hx)
  simpa[fE,oQ]using this
theorem get_filter(l:List Rec)(p q:ByteArray):Sp.get Rec.path (l.filter fun r=>decide (r.path≠p)) q=if q=p then none else Sp.get Rec.path l q:=by
 unfold Sp.get;rw[List.find?_filter];by_cases h:q=p
 ·subst h;rw[if_pos rfl,List.find?_eq_none];intro x _ hx;simp at hx
 ·rw[if_neg h];congr 1;funext r;by_cases h2:r.path=q
  ·subst h2;simp[h]
  ·simp[h2]
theorem QS{rs ds:List Rec}(h:o8 rs ds)(hr:Sp.bf Rec.path rs)(hinj:∀a∈ds,∀b∈ds,a.path=b.path->a=b)(hd:ds.Nodup)(p:ByteArray):o8 (Sp.cut Rec.path rs p) (jd ds p):=by
 have hm:=h.cut hr hinj p;refine⟨fun q=>?_,hm,?_⟩
 ·unfold Sp.cut jd;rw[get_filter,get_filter,h.get]
 ·refine Nat.le_antisymm (iL (List.Nodup.sublist List.filter_sublist (pV hr)) fun x hx=>(hm x).1 hx) (iL (List.Nodup.sublist List.filter_sublist hd) fun x hx=>(hm x).2 hx)
end uI

namespace uI
open Go.RowKit Mem Tr St kU yL
open Go.Proofs.YtmmmghpimdfleaaGreatDoor.Own
theorem Wh(v:Value)(ds:List Rec)(p:ByteArray)(w:World)(h:mY w v ds)(hn:ds.length<=1048576)(hp:aJ.has ds p=false) :
 Calls Tryz.prog 104 #[v,.string p] w fun e w'=>e = .returned (.tuple #[.slice none 0 0,.int .i64 3])/\w'=w:=by
 have hF:=wI _ v ds p w h.1 (by omega);rw[oJ hp]at hF;obtain⟨Fj,cap0,rfl,_,_,_⟩:=h.1;have HF:=yH hF;clear h hp hF
 go_enter Tryz.func104,Tryz.ntmps104
 go_wp2_with fail;refine HF.out.mono ?_;rintro e w3 ⟨rfl,hw⟩;rw[hw];clear hw w3 HF
 go_wp2_with fail
 go_ret2;exact⟨rfl,rfl⟩
def Yp:Option Rec->ByteArray
 | none=>⟨#[]⟩
 | some r=>r.path
def pkS(cnt:ByteArray->Int):Option Rec->Nat
 | none=>0
 | some r=>rO cnt r
theorem Wi{a b:Nat}(ha:a<=Ieee.double.infRung)(hb:b<=Ieee.double.infRung):(FloatKind.f64.format.order a b==some Ordering.gt)=decide (b<a):=by
 show(Ieee.double.order a b==some Ordering.gt)=_;rw[F.sS ha hb];rcases Nat.lt_trichotomy a b with h|h|h
 ·rw[Nat.compare_eq_lt.2 h,decide_eq_false (by omega)];rfl
 ·subst h;rw[Nat.compare_eq_eq.2 rfl,decide_eq_false (Nat.lt_irrefl _)];rfl
 ·rw[Nat.compare_eq_gt.2 h,decide_eq_true h];rfl
set_option maxRecDepth 20000 in
theorem QT(v dv uv:Value)(rs ds:List Rec)(D:List ByteArray)(us:List (ByteArray × Int))(w:World)(h:mY w v ds)(qW:o8 rs ds)(hD:Strs (fun b=>b<w.heap.size) w dv D)(hDl:D.length<=1048576)(hris:wH.yK D)(hu:Uses (fun b=>b<w.heap.size) w uv us)(PR:us.length<=2097152)(hus:∀x∈us,x.1.size<=4194304/\x.2<9223372036854775808)(hn:ds.length<=1048576)(hbd:∀x∈ds,x.bulk<=4194304)(hsm:∀x∈ds,0<=x.size/\x.size<=1073741824)(hne:∀x∈ds,x.path≠⟨#[]⟩) :
 Calls Tryz.prog 99 #[v,dv,uv] w fun e w'=>e = .returned (.string (Yp (pick (bst (cntF us)) rs D)))/\Below w.heap.size w w':=by
 have HS:=yH h;have QU:=yH qW;have BV:=yH hD;have Jb:=yH hris;have HU:=yH hu;have Nu:=yH hus;have TV:=yH PR;have PM:=yH hbd;have QV:=yH hsm;have Ko:=yH hne;obtain⟨Fj,cap0,rfl,_,_,_⟩:=h.1;obtain⟨d,hd⟩:∃d,ds.length=d:=⟨_,rfl⟩;have nN:=yH hd;rw[hd]at hn HS ⊢;obtain⟨ao,cap,rfl,_,_,_⟩:=hD;obtain⟨n,hnn⟩:∃n,D.length=n:=⟨_,rfl⟩;have HN:=yH hnn;rw[hnn]at hDl BV ⊢;obtain⟨ve,cap3,rfl,_,_,_⟩:=hu;obtain⟨cnt,hcnt⟩:∃c,cntF us=c:=⟨_,rfl⟩;have HCT:=yH hcnt;have QW:=yH (show ∀u,cnt u<9223372036854775808 from fun u=>by rw[←hcnt];exact wQ (fun x hx=>(hus x hx).2) u);rw[hcnt];clear h qW hris hus hbd hsm hne hd hnn hcnt
 go_enter Tryz.func99,Tryz.ntmps99
 go_wp2_with fail
 go_loopw [7,8,9,10,11,12,13] (fun pk ms i _ _ _ _ wr=>∃k:Nat,k<=n/\i = .int .i64 k/\pk = .string (Yp (pick (bst cnt) rs (D.take k)))/\ms = .float .f64 (pkS cnt (pick (bst cnt) rs (D.take k)))/\Below w.heap.size w wr) (fun _ _ i _ _ _ _ _=>n-(intOf i).toNat)
 case atStart=>exact⟨0,Nat.zero_le _,rfl,rfl,rfl,Below.refl _ _⟩
 case round =>
  obtain⟨k,hk,rfl,rfl,rfl,hb⟩:=hrel;have e0:(0:Int)<=(k:Int):=Int.natCast_nonneg _;by_cases hlt:k<n
  ·have e1:(k:Int)<(n:Int):=(by omega);have hkl:k<D.length:=(by rw[HN.out];exact hlt);obtain⟨rb,ro,wJ,nR,hcells⟩:=fP (BV.out.below hb) (by omega);rw[HN.out]at nR;injection nR with ji gY jk;subst ji;clear gY jk;have gk:=hcells k hkl;have Yq:=yH (yQ (bst cnt) rs D k hkl);have Eh:=yH (show ∀r,pick (bst cnt) rs (D.take k)=some r->Sp.lt r.path D[k]=true from fun r hr=>by
    have h1:=(iM hr).2.1;obtain⟨j,hj,e⟩:=List.mem_iff_getElem.1 h1;rw[List.length_take]at hj;rw[List.getElem_take]at e;rw[←e];exact List.pairwise_iff_getElem.1 Jb.out j k (by omega) hkl (by omega))
   have Wj:=yH (show ∀r,pick (bst cnt) rs (D.take k)=some r->r∈ds from fun r hr=>(QU.out.mem r).1 (iM hr).1);obtain⟨p,hp⟩:∃p,D[k]=p:=⟨_,rfl⟩;rw[hp]at gk Yq Eh;obtain⟨acc,hacc⟩:∃acc,pick (bst cnt) rs (D.take k)=acc:=⟨_,rfl⟩;rw[hacc]at Yq Eh Wj ⊢;have hSW:=HS.out.below hb;have hsz:=hb.size;clear hcells hp hacc hkl;by_cases hh:aJ.has ds p=true
   ·have QN:=yH (Np _ ds p wr hSW (by rw[nN.out];exact hn) hh PM.out);have hnd:aJ.has rs p=true:=(by rw[QU.out.has];exact hh);unfold aJ.has at hh;obtain⟨r,hr⟩:=Option.isSome_iff_exists.1 hh;have HGR:=yH hr;have HGD:=yH hnd;clear hh hnd hr
    go_wp2_with fail;refine QN.out.mono ?_;rintro e w2 ⟨v2,L,rfl,ho2,_,hmem,b2⟩;have B2:=hb.trans (b2.mono hb.size);obtain⟨a2,c2,rfl⟩:=Tab.aO ho2;obtain⟨g,hg⟩:∃g,L.length=g:=⟨_,rfl⟩;have HE:=yH (show nS ds p = []↔g=0 from by
     rw[←hg];constructor
     ·intro h0;refine List.length_eq_zero_iff.2 (List.eq_nil_iff_forall_not_mem.2 fun q hq=>?_);have:=(hmem q).1 hq;rw[h0]at this;cases this
     ·intro h0;have hL:=List.length_eq_zero_iff.1 h0;refine List.eq_nil_iff_forall_not_mem.2 fun q hq=>?_
      have:=(hmem q).2 hq;rw[hL]at this;cases this)
    rw[hg];clear ho2 hmem hg QN;by_cases hg0:g=0
    case neg =>
     have g1:(0:Int)<(g:Int):=(by omega);have g2:0<g:=(by omega);have sG:=yH (show pick (bst cnt) rs (D.take (k+1))=acc by
      rw[Yq.out];unfold jV free;rw[HGD.out,decide_eq_false (fun h=>hg0 (HE.out.1 ((wP QU.out p).1 h)))];rfl)
     clear hg0
     go_wp2_with fail
     go_roundw
     case rel=>exact⟨k+1,by omega,by go_num,by rw[sG.out],by rw[sG.out],B2⟩
     case measure=>simp[intOf];omega
    subst hg0;have Bf:=yH (show free rs p=true by unfold free;rw[HGD.out,decide_eq_true ((wP QU.out p).2 (HE.out.2 rfl))];rfl);have zaY:=yH (show Sp.get Rec.path rs p=some r by rw[QU.out.get];exact HGR.out);clear HE;obtain⟨z,hzl,hz,TK⟩:=gX HGR.out;have hrm:=Sp.get_some HGR.out;have hF:=wI _ _ ds p w2 (HS.out.below B2).1 (by rw[nN.out];omega);rw[hz]at hF;have HF:=yH hF;obtain⟨ad,MQ,hvd,_,_,hkd⟩:=HS.out.1;injection hvd with hv1 hv2 hv3;subst hv1;rcases hkd with h0|⟨sb,so,hsb,hSb,hkd⟩
    ·rw[h0]at hzl;simp at hzl
    subst hsb;obtain⟨oc,hrg,hrec⟩:=hkd z hzl;rw[TK]at hrec;have pR:w2.rangeAt sb (so+z*39) oc:=St.fD hrg B2;have hol:=hrec.length;obtain⟨kv,Ym,hoe,QE,_,_⟩:=hrec;have G8:w2.cell? ⟨sb,so+z*39+38,none⟩=some (.int .i64 r.size):=pR 38 _ (by rw[List.getElem?_eq_getElem (by omega)];exact congrArg some (qU hoe.symm hol QE));have gk2:w2.cell? ⟨rb,ro+k,none⟩=some (.string p):=(b2.cell (World.block_lt_of_cell? wr _ gk)).trans gk;have hcu:=Ns _ _ us p w2 (HU.out.below B2) (by have:=TV.out;omega);rw[HCT.out]at hcu;have Wl:=yH hcu;have Hw:=yH (Nr r.size (cnt p) w2 (by have:=(QV.out r hrm.1).2;omega) (QW.out p));have hsb:=(comes r.size (cnt p) (by have:=(QV.out r hrm.1).2;omega) (QW.out p)).2;have HPE:=yH (show rO cnt r=bD r.size (cnt p) by unfold rO;rw[hrm.2]);have HPP:=yH hrm.2;have HNR:=yH (Ko.out r hrm.1);have z0:(0:Int)<=(z:Int):=Int.natCast_nonneg _;have z1:(z:Int)<(d:Int):=(by have:=nN.out;omega);obtain⟨sc,hsc⟩:∃sc,bD r.size (cnt p)=sc:=⟨_,rfl⟩;rw[hsc]at Hw hsb HPE;obtain⟨cp,hcp⟩:∃cp,cnt p=cp:=⟨_,rfl⟩;rw[hcp]at Hw Wl;clear hzl hz TK hrm hF hv2 hv3 hkd hSb hrg pR hol hoe QE hcu hsc hcp gk
    go_wp2_with fail;refine HF.out.mono ?_;rintro e w3 ⟨rfl,hw⟩;rw[hw];clear hw w3 HF
    go_wp2_with fail;refine Wl.out.mono ?_;rintro e w3 ⟨rfl,hw⟩;rw[hw];clear hw w3 Wl
    go_wp2_with fail;refine Hw.out.mono ?_;rintro e w3 ⟨rfl,hw⟩;rw[hw];clear hw w3 Hw;cases acc with
    | none =>
     have sG:=yH (show pick (bst cnt) rs (D.take (k+1))=some r by
      rw[Yq.out];unfold jV;rw[if_pos Bf.out,zaY.out])
     have tt:((⟨#[]⟩:ByteArray).toList==(⟨#[]⟩:ByteArray).toList)=true:=(by simp);unfold Yp
     go_wp2_with fail
     go_roundw
     case rel=>exact⟨k+1,by omega,by go_num,by rw[sG.out];exact congrArg Value.string HPP.out.symm,by rw[sG.out];show _=Value.float .f64 (rO cnt r);rw[HPE.out],B2⟩
     case measure=>simp[intOf];omega
    | some a =>
     have hab:=(comes a.size (cnt a.path) (by have:=(QV.out a (Wj.out a rfl)).2;omega) (QW.out a.path)).2;have hgt:=Wi hsb (show rO cnt a<=Ieee.double.infRung from hab);have tt:(a.path.toList==(⟨#[]⟩:ByteArray).toList)=false:=yL.tZ (Ko.out a (Wj.out a rfl));have tt2:¬a.path.toList = []:=fun h=>Ko.out a (Wj.out a rfl) (Sp.toList_inj (h.trans (by simp)))
     have tt3:a.path.toList.isEmpty=false:=by cases hx:a.path.toList with
      | nil=>exact absurd hx tt2
      | cons _ _=>rfl
     have hst:pick (bst cnt) rs (D.take (k+1))=if decide (rO cnt a<sc)=true then some r else some a:=by
      rw[Yq.out];unfold jV;rw[if_pos Bf.out,zaY.out];show(if bst cnt r a=true then some r else some a)=_;have e:bst cnt r a=decide (rO cnt a<sc):=by
       show kU.ahead r.path (rO cnt r) a.path (rO cnt a)=_;unfold kU.ahead;rw[HPE.out];by_cases h1:sc=rO cnt a
       ·rw[if_pos h1,decide_eq_false (by omega),HPP.out];exact Sp.lt_asymm (Eh.out a rfl)
       ·rw[if_neg h1]
      rw[e]
     have HST:=yH hst;obtain⟨sa,hsa⟩:∃sa,rO cnt a=sa:=⟨_,rfl⟩;have HSA:=yH hsa;rw[hsa]at hgt HST;have hpk:pkS cnt (some a)=sa:=hsa;have hpp:Yp (some a)=a.path:=rfl;rw[hpk,hpp];clear hab hst hsa hpk hpp;by_cases hlt2:sa<sc
     ·rw[decide_eq_true hlt2]at hgt HST;have sG:=yH (show pick (bst cnt) rs (D.take (k+1))=some r from HST.out);clear hlt2
      go_wp2_with fail
      go_roundw
      case rel=>exact⟨k+1,by omega,by go_num,by rw[sG.out];exact congrArg Value.string HPP.out.symm,by rw[sG.out];show _=Value.float .f64 (rO cnt r);rw[HPE.out],B2⟩
      case measure=>simp[intOf];omega
     ·rw[decide_eq_false hlt2]at hgt HST;have sG:=yH (show pick (bst cnt) rs (D.take (k+1))=some a from HST.out);clear hlt2
      go_wp2_with fail
      go_roundw
      case rel=>exact⟨k+1,by omega,by go_num,by rw[sG.out];rfl,by rw[sG.out];show _=Value.float .f64 (rO cnt a);rw[HSA.out],B2⟩
      case measure=>simp[intOf];omega
   ·have hh2:aJ.has ds p=false:=(by cases hx:aJ.has ds p;rfl;exact absurd hx hh);have QN:=yH (Wh (.slice Fj d cap0) ds p wr hSW (by rw[nN.out];exact hn) hh2);have sG:=yH (show pick (bst cnt) rs (D.take (k+1))=acc by
     rw[Yq.out];unfold jV free;rw[QU.out.has,hh2];rfl)
    have B2:=hb;clear hh hh2
    go_wp2_with fail;refine QN.out.mono ?_;rintro e w2 ⟨rfl,hw⟩;rw[hw];clear hw w2 QN
    go_wp2_with fail
    go_roundw
    case rel=>exact⟨k+1,by omega,by go_num,by rw[sG.out],by rw[sG.out],B2⟩
    case measure=>simp[intOf];omega
  ·obtain rfl:k=n:=(by omega);rw[List.take_of_length_le (by rw[HN.out];exact Nat.le_refl _)]
   go_wp2_with fail
   go_ret;exact⟨rfl,hb⟩
end uI

namespace uI
open Go.RowKit Mem Tr St kU yL
open Go.Proofs.YtmmmghpimdfleaaGreatDoor.Own
/-- What a ak store must be like. -/
structure Jj(ds:List Rec):Prop where
 nodup:ds.Nodup
 inj:∀a∈ds,∀b∈ds,a.path=b.path->a=b
 bulk:∀x∈ds,x.bulk<=4194304
 small:∀x∈ds,0<=x.size/\x.size<=1073741824
 ne:∀x∈ds,x.path≠⟨#[]⟩
theorem Jj.cut{ds:List Rec}(h:Jj ds)(p:ByteArray):Jj (jd ds p):=by
 have hs:∀x∈jd ds p,x∈ds:=fun x hx=>(List.mem_filter.1 hx).1
 exact⟨List.Nodup.sublist List.filter_sublist h.nodup,fun a ha b hb=>h.inj a (hs a ha) b (hs b hb),fun x hx=>h.bulk x (hs x hx),fun x hx=>h.small x (hs x hx),fun x hx=>h.ne x (hs x hx)⟩
theorem Nv{ds:List Rec}{r:Rec}(h:r∈ds):(jd ds r.path).length+1<=ds.length:=by
 have h1:(jd ds r.path).length<ds.length:=by
  unfold jd;refine Nat.lt_of_le_of_ne (List.length_filter_le _ _) fun e=>?_
  have:=List.length_filter_eq_length_iff.1 e r h;simp at this
 omega
/-- What the ak Collect gives. -/
def QX(B:Nat)(w:World)(best:Bst)(D:List ByteArray)(want:Int)(rs:List Rec)(e:Ending)(w':World):Prop :=
 ∃v ov st ds,e = .returned (.tuple #[v,ov,.int .i64 st.freed])/\Fin best D want rs st/\o8 st.rs ds/\jU B w' v ds/\w'.ownsRow w.heap.size 9 1 ov st.out.length (st.out.map .string)/\Below w.heap.size w w'
theorem Nw{best:Bst}{D:List ByteArray}{want:Int}{s a b:At}{n:Nat}(h1:uK best D want s n=some a)(h2:kU.next best D want a=some b):uK best D want s (n+1)=some b:=by
 show(uK best D want s n).bind (kU.next best D want)=some b;rw[h1];exact h2
set_option maxRecDepth 20000 in
theorem FC(B:Nat)(v rv uv:Value)(rs ds:List Rec)(roots:List ByteArray)(us:List (ByteArray × Int))(want:Int)(w:World)(BU:B<=w.heap.size)(h:jU B w v ds)(qW:o8 rs ds)(hf:Fit rs)(Hy:Jj ds)(hro:Strs (fun b=>b<w.heap.size) w rv roots)(hrn:roots.length<=1048576)(hu:Uses (fun b=>b<w.heap.size) w uv us)(PR:us.length<=2097152)(hus:∀x∈us,x.1.size<=4194304/\x.2<9223372036854775808) :
 Calls Tryz.prog 53 #[v,rv,uv,.int .i64 want] w (QX B w (bst (cntF us)) (iE rs roots) want rs):=by
 have hn:ds.length<=1048576:=(by rw[←qW.len];exact hf.len);have hDE:=QH v rv ds roots w h.D hro hn hrn (qW.closed hf.closed) Hy.inj Hy.bulk;have HDE:=yH hDE;have HS:=yH h;have HLO:=yH BU;have QU:=yH qW;have HF:=yH hf;have HNI:=yH Hy;have HU:=yH hu;have TV:=yH PR;have Nu:=yH hus;obtain⟨Fj,cap0,rfl,_,_,_⟩:=h.1;obtain⟨d,hd⟩:∃d,ds.length=d:=⟨_,rfl⟩;have nN:=yH hd;rw[hd]at hn HS HDE ⊢;obtain⟨ao,cap,rfl,_,_,_⟩:=hro;obtain⟨ve,cap3,rfl,_,_,_⟩:=hu;obtain⟨i0,hi,hz0',hz1,hz2⟩:=info_parts Make.bI;clear h qW hf Hy hus hd hDE PR hrn BU
 go_enter Tryz.func53,Tryz.ntmps53
 go_wp2_with fail;refine HDE.out.mono ?_;rintro e w1 ⟨all,live,⟨dv,rfl,ho1,b1⟩,hris,hall,hlive⟩;have PO:=yH (show iE rs roots=nM all live from I9 QU.out HF.out.rise hris hall hlive);have VQ:=yH (show wH.yK (iE rs roots) by rw[PO.out];exact List.Pairwise.filter _ hris);rw[←PO.out]at ho1;obtain⟨D,hD⟩:∃D,iE rs roots=D:=⟨_,rfl⟩;rw[hD]at ho1 VQ;have HD:=yH hD;have BV:=yH ((Strs.bU ho1).sub (S':=fun b=>b<w1.heap.size) (fun q h1 _=>h1));have hDn:D.length<=1048576:=by
  have h1:=iL (jA VQ.out) (b:=rs.map Rec.path) (fun p hp=>by
   rw[←hD]at hp;obtain⟨⟨r,h1,h2⟩,_⟩:=qM.1 hp;exact List.mem_map.2 ⟨r,h1,h2⟩)
  rw[List.length_map]at h1;have:=HF.out.len;omega
 obtain⟨best,zaZ⟩:∃b,bst (cntF us)=b:=⟨_,rfl⟩;have uA:=yH zaZ;have HUW:=yH (show ∀W,Below w.heap.size w W->Uses (fun b=>b<W.heap.size) W (.slice ve us.length cap3) us from fun W hb=>(HU.out.below hb).sub (fun b _ h=>Nat.lt_of_lt_of_le h hb.size));have HS1:=yH (HS.out.below b1);have QO:=b1.size;clear ho1 hris hall hlive hD HDE
 go_wp2_with fail
 go_loopw [0,12,13,14] (fun sv o fr _ wr=>∃(n g:Nat) (a:Option Addr) (c:Nat) (st:At) (ds2:List Rec) (z:Int),o = .slice a g c/\fr = .int .i64 z/\Hid (uK best D want ⟨rs,[],0⟩ n=some st/\st.freed=z/\st.out.length=g/\o8 st.rs ds2/\Sp.bf Rec.path st.rs/\Jj ds2)/\ds2.length+g<=d/\0<=z/\z<=1073741824*(g:Int)/\Hid (Op.jR (fun b=>(B<=b/\b<w.heap.size)∨(w1.heap.size<=b/\b<wr.heap.size/\(Value.slice a g c).ownBlock≠some b)) wr sv ds2/\∀n c,sv = .slice none n c->c=0)/\Hid (wr.ownsRow w1.heap.size 9 1 (.slice a g c) g (st.out.map .string))/\Below w.heap.size w wr/\Below w1.heap.size w1 wr) (fun _ o _ _ _=>d+1-(match o with | .slice _ g _=>g|_=>0))
 case atStart=>exact⟨0,0,none,0,⟨rs,[],0⟩,ds,0,rfl,rfl,yH ⟨rfl,rfl,rfl,QU.out,HF.out.rise,HNI.out⟩,by have:=nN.out;omega,by omega,by omega,yH ⟨(HS.out.1.below b1).mono (fun b h=>.inl h),HS.out.2⟩,yH (by simpa using World.ownsRow_nil _ _ _ _),b1,Below.refl _ _⟩
 case round =>
  obtain⟨n,g,a,c,st,ds2,z,rfl,rfl,HI,hdg,hz,hzg,Yr,HOW,hb,hb1⟩:=hrel;have hsz:=hb.size;have hsz1:=hb1.size;have TW:=yH (show mY wr u0 ds2 from⟨Yr.out.1.mono (fun b h=>by rcases h with h|h;exact Nat.lt_of_lt_of_le h.2 hsz;exact h.2.1),Yr.out.2⟩);have GR:=yH (show jU B wr u0 ds2 from⟨Yr.out.1.mono (fun b h=>by have h8:=HLO.out;rcases h with h|h;exact⟨h.1,Nat.lt_of_lt_of_le h.2 hsz⟩;exact⟨by have:=h.1;omega,h.2.1⟩),Yr.out.2⟩);by_cases hlt:z<want
  ·have hNX:=QT u0 _ _ st.rs ds2 D us wr TW.out HI.out.2.2.2.1 ((BV.out.below hb1).sub (S':=fun b=>b<wr.heap.size) (fun q h1 _=>h1)) hDn VQ.out (HUW.out wr hb) TV.out Nu.out (by omega) HI.out.2.2.2.2.2.bulk HI.out.2.2.2.2.2.small HI.out.2.2.2.2.2.ne;rw[uA.out]at hNX;have sG:=yH hNX;obtain⟨pk,hpk⟩:∃pk,pick best st.rs D=pk:=⟨_,rfl⟩;rw[hpk]at sG;have Jk:=yH hpk;clear hNX hpk
   go_wp2_with fail;refine sG.out.mono ?_;rintro e w2 ⟨rfl,b2⟩;have B2:=hb.trans (b2.mono hb.size);have B12:=hb1.trans (b2.mono hb1.size);clear sG;cases pk with
   | none =>
    have tt:((⟨#[]⟩:ByteArray).toList==(⟨#[]⟩:ByteArray).toList)=true:=(by simp);have sQ:=yH (show Fin best D want rs st from⟨n,HI.out.1,by unfold kU.next;rw[if_pos (by rw[HI.out.2.1];exact hlt),Jk.out]⟩);have HOF:=yH (Copy.own_below HOW.out b2);have HSF:=yH (GR.out.below b2);have iU:=yH HI.out.2.2.1;have HZ:=yH HI.out.2.1;unfold Yp
    go_wp2_with fail
    go_ret3
    refine⟨u0,.slice a g c,st,ds2,by rw[HZ.out];rfl,by(first|rw[uA.out,HD.out]|rw[HD.out]);exact sQ.out,HI.out.2.2.2.1,HSF.out,?_,B2⟩;rw[iU.out];exact jT HOF.out QO
   | some r =>
    have hps:=iM Jk.out;have hrd:r∈ds2:=(HI.out.2.2.2.1.mem r).1 hps.1;have hgr:Sp.get Rec.path ds2 r.path=some r:=(by rw[←HI.out.2.2.2.1.get];exact Sp.get_of_mem HI.out.2.2.2.2.1 hps.1);have hhas:aJ.has ds2 r.path=true:=(by unfold aJ.has;rw[hgr];rfl);have hfr:nS ds2 r.path = []:=(by have h:=hps.2.2;unfold free at h;rw[Bool.and_eq_true,decide_eq_true_eq]at h;exact(wP HI.out.2.2.2.1 _).1 h.2);have HRS:=yH (HI.out.2.2.2.2.2.small r hrd);have za0:=yH (HI.out.2.2.2.2.2.ne r hrd);have HLC:=yH (Nv hrd);have Hw:=yH (QS HI.out.2.2.2.1 HI.out.2.2.2.2.1 HI.out.2.2.2.2.2.inj HI.out.2.2.2.2.2.nodup r.path);have Ak:=yH (HI.out.2.2.2.2.2.cut r.path);have MJ:=yH (show Sp.bf Rec.path (Sp.cut Rec.path st.rs r.path)from List.Pairwise.filter _ HI.out.2.2.2.2.1);have HST:=yH (show uK best D want ⟨rs,[],0⟩ (n+1)=some ⟨Sp.cut Rec.path st.rs r.path,st.out ++ [r.path],st.freed+r.size⟩from Nw HI.out.1 (by unfold kU.next;rw[if_pos (by rw[HI.out.2.1];exact hlt),Jk.out]));have HZ:=yH HI.out.2.1;have iU:=yH HI.out.2.2.1;have HSW:=TW.out.below b2;have hd2:ds2.length<=1048576:=(by omega);have hs2:=b2.size;have Wl:=yH (show Calls Tryz.prog 61 #[u0,.string r.path] w2 (Nq (fun b=>(B<=b/\b<w.heap.size)∨(w1.heap.size<=b/\b<w2.heap.size/\(Value.slice a g c).ownBlock≠some b)) w2 0 (jd ds2 r.path))from(zaX _ u0 ds2 r.path w2 ((Yr.out.1.below b2).mono (S':=fun b=>(B<=b/\b<w.heap.size)∨(w1.heap.size<=b/\b<w2.heap.size/\(Value.slice a g c).ownBlock≠some b)) (fun b h=>by rcases h with h|h;exact .inl h;exact .inr ⟨h.1,by omega,h.2.2⟩)) Yr.out.2 (fun b h=>by rcases h with h|h;omega;exact h.2.1) hd2 hhas HI.out.2.2.2.2.2.bulk).mono (fun e w' h=>by
     unfold qV at h;rw[if_pos hfr,if_pos hfr]at h;exact h))
    obtain⟨q,hql,hq,hqo⟩:=gX hgr;have hF:=wI _ u0 ds2 r.path w2 HSW.1 (by omega);rw[hq]at hF;have Ej:=yH hF;obtain⟨ad,MQ,hvd,_,_,hkd⟩:=HSW.1;rcases hkd with h0|⟨sb,so,hsb,hSb,hkd⟩
    ·rw[h0]at hql;simp at hql
    subst hsb;obtain⟨oc,hrg,hrec⟩:=hkd q hql;rw[hqo]at hrec;have hol:=hrec.length;obtain⟨kv,Ym,hoe,QE,_,_⟩:=hrec;have G8:w2.cell? ⟨sb,so+q*39+38,none⟩=some (.int .i64 r.size):=hrg 38 _ (by rw[List.getElem?_eq_getElem (by omega)];exact congrArg some (qU hoe.symm hol QE));have q0:(0:Int)<=(q:Int):=Int.natCast_nonneg _;obtain⟨m2,hm2⟩:∃m2,ds2.length=m2:=⟨_,rfl⟩;have q1:(q:Int)<(m2:Int):=(by omega);have s0:=HRS.out.1;have s1:=HRS.out.2;have tt:(r.path.toList==(⟨#[]⟩:ByteArray).toList)=false:=yL.tZ za0.out;have tt2:¬r.path.toList = []:=fun h=>za0.out (Sp.toList_inj (h.trans (by simp)))
    have tt3:r.path.toList.isEmpty=false:=by
     cases hx:r.path.toList with
     | nil=>exact absurd hx tt2
     | cons _ _=>rfl
    rw[hm2]at hvd hdg;have HLM:=yH hm2;subst hvd;obtain⟨p,hp⟩:∃p,r.path=p:=⟨_,rfl⟩;obtain⟨sz,hss⟩:∃s,r.size=s:=⟨_,rfl⟩;have hpk:Yp (some r)=p:=hp;rw[hpk];rw[hp]at tt tt2 tt3 Ej Wl HST Hw Ak MJ HLC;rw[hss]at G8 s0 s1 HST;have o9:=yH (Copy.own_below HOW.out b2);clear hps hrd hgr hhas hfr hql hq hqo hF hSb hkd hrg hol hoe QE HSW hm2 hp hss hpk hd2;have hzb:z+sz<=1152921504606846976:=(by omega);have hz0:0<=z+sz:=(by omega);have hwz:IntKind.i64.wrap (z+sz)=z+sz:=(by rw[IntKind.wrap_i64];omega)
    go_wp2_with fail;refine Ej.out.mono ?_;rintro e w3 ⟨rfl,hw⟩;rw[hw];clear hw w3 Ej
    go_wp2_with fail;refine Wl.out.mono ?_;rintro e w3 ⟨v3,rfl,hD3,hc3,b3⟩;have HD3:=yH hD3;have HC3:=yH hc3;have zey:=b3.size;have hown2:=Copy.own_below o9.out b3;have HO3:=yH hown2;have B3:=B2.trans (b3.mono B2.size);have B13:=B12.trans (b3.mono B12.size);have hs3:=B3.size;have zez:=B13.size;have hg2:g<=1048576:=(by omega);clear hD3 hc3 b3 Wl G8 hwz
    go_wp2_with (at_builtin;go_loud (refine wpList_append_own_at _ rfl _ _ 27 rfl w1.heap.size 9 i0 (.string ⟨#[]⟩) 1 16 Tryz.underlying27 hi hz0' hz1 hz2 rfl (by decide) _ _ _ rfl (hown2.alloc _) ⟨w3.heap.size,0,none⟩ 1 1 [.string p] rfl rfl (cell_one_new _ _ _) (by simp[Value.oneCell']) (by unfold maxLen;omega) (by omega) (by simp;omega) ?_;intro v' w8 aV hgrow hnil hat;have pg:=yH aV;have rM:=yH hgrow;have QF:Hid (v'.ownBlock=(Value.slice a g c).ownBlock∨v'.ownBlock=some (w3.alloc (.cells #[.string p] 9)).heap.size):=yH hat;clear aV hgrow hnil hat))
    have hba:Below w3.heap.size w3 (w3.alloc (.cells #[.string p] 9)):=(Below.refl _ w3).alloc (Nat.le_refl _) _;have k8:Kp (fun b=>(Value.slice a g c).ownBlock=some b) w3 w8:=(Kp.of_below hba).then (Kp.fA rM.out (fun r e _=>e));have hlo:∀b,(Value.slice a g c).ownBlock=some b->w1.heap.size<=b/\b<w2.heap.size:=fun b e=>o9.out.lt b e
    have B8:=B3.trans (k8.below B3.size (fun i hi e=>by have:=(hlo i e).1;omega));have B18:=B13.trans (k8.below B13.size (fun i hi e=>by have:=(hlo i e).1;omega));obtain⟨a8,c8,rfl⟩:=Tab.aO pg.out;have hs8:=k8.size;have hfresh:(w3.alloc (.cells #[.string p] 9)).heap.size=w3.heap.size+1:=(by simp);have nC:=yH (show Op.jR (fun b=>(B<=b/\b<w.heap.size)∨(w1.heap.size<=b/\b<w8.heap.size/\(Value.slice a8 (g+1) c8).ownBlock≠some b)) w8 v3 (jd ds2 p)from by
     have h1:=HD3.out.ag (w':=w8) (Ag.bg k8 (fun b _ hS hM=>by
      have h2:=hlo b hM;rcases hS with(hS|hS)|hS
      ·omega
      ·exact hS.2.2 hM
      ·omega))
     refine h1.mono fun b hS=>?_
     have hne:∀q,(Value.slice a g c).ownBlock=some q->q<w2.heap.size:=fun q e=>(hlo q e).2
     rcases hS with(hS|hS)|hS
     ·exact .inl hS
     ·refine .inr ⟨hS.1,by omega,fun e=>?_⟩;rcases QF.out with h|h
      ·rw[h]at e;exact hS.2.2 e
      ·rw[h,hfresh]at e;have:=Option.some.inj e;omega
     ·refine .inr ⟨by omega,by omega,fun e=>?_⟩;rcases QF.out with h|h
      ·rw[h]at e;have:=hne b e;omega
      ·rw[h,hfresh]at e;have:=Option.some.inj e;omega)
    have HL8:=yH (show(st.out ++ [p]).length=g+1 by rw[List.length_append,iU.out];rfl);have hdl:(jd ds2 p).length+1<=ds2.length:=HLC.out;have zc3:(jd ds2 p).length+(g+1)<=d:=(by have:=HLM.out;omega);have HZ2:=yH (show st.freed+sz=z+sz by rw[HZ.out]);clear hown2 hba k8 hlo QF hfresh
    go_roundw
    case rel=>exact⟨n+1,g+1,a8,c8,⟨Sp.cut Rec.path st.rs p,st.out ++ [p],st.freed+sz⟩,jd ds2 p,z+sz,rfl,rfl,yH ⟨HST.out,HZ2.out,HL8.out,Hw.out,MJ.out,Ak.out⟩,zc3,hz0,by omega,yH ⟨nC.out,HC3.out⟩,yH (by show w8.ownsRow w1.heap.size 9 1 _ (g+1) ((st.out ++ [p]).map .string);rw[List.map_append];exact pg.out),B8,B18⟩
    case measure=>show d+1-(g+1)<d+1-g;omega
  ·have sQ:=yH (show Fin best D want rs st from⟨n,HI.out.1,by unfold kU.next;rw[if_neg (by rw[HI.out.2.1];exact hlt)]⟩);have iU:=yH HI.out.2.2.1;have HZ:=yH HI.out.2.1
   go_wp2_with fail
   go_ret3
   refine⟨u0,.slice a g c,st,ds2,by rw[HZ.out];rfl,by(first|rw[uA.out,HD.out]|rw[HD.out]);exact sQ.out,HI.out.2.2.2.1,GR.out,?_,hb⟩;rw[iU.out];exact jT HOW.out QO
end uI

namespace uI
open Go.RowKit Mem Tr St kU yL
open Go.Proofs.YtmmmghpimdfleaaGreatDoor.Own
def uM(us:List (ByteArray × Int)):List Value:=us.flatMap fun x=>[.string x.1,.int .i64 x.2]
theorem Jl(us:List (ByteArray × Int))(x:ByteArray × Int):uM (us ++ [x])=uM us ++ [.string x.1,.int .i64 x.2]:=by
 unfold uM;rw[List.flatMap_append];rfl
theorem Ny(us:List (ByteArray × Int))(j:Nat)(h:j<us.length):(uM us)[j*2]? = some (.string us[j].1)/\(uM us)[j*2+1]? = some (.int .i64 us[j].2):=by
 induction us generalizing j with
 | nil=>simp at h
 | cons x l ih =>
  have e:uM (x :: l) = .string x.1 :: .int .i64 x.2 :: uM l:=rfl;rw[e];cases j with
  | zero=>exact⟨rfl,rfl⟩
  | succ j =>
   have:=ih j (by simpa using h);rw[show(j+1)*2=j*2+1+1 by omega]
   simpa using this
theorem Am:(Tryz.prog.info? 143).map (fun i=>(i.zero,i.size,i.bytes))=some (some (.agg #[.string ⟨#[]⟩,.int .i64 0]),2,24):=by kernel_rfl
set_option maxRecDepth 20000 in
theorem Wn(v:Value)(us:List (ByteArray × Int))(w:World)(hu:Uses (fun b=>b<w.heap.size) w v us)(hn:us.length<=2097152) :
 Calls Tryz.prog 54 #[v] w fun e w'=>∃v',e = .returned v'/\Uses (fun b=>w.heap.size<=b/\b<w'.heap.size) w' v' us/\Below w.heap.size w w':=by
 obtain⟨i0,hi,hz0,hz1,hz2⟩:=info_parts Am;obtain⟨ao,cap,rfl,hlc,hcm,hel⟩:=hu;obtain⟨n,hln⟩:∃n,us.length=n:=⟨_,rfl⟩;have HL:=yH hln;have HC:=yH (show ∀j (h:j<us.length),∃b off,ao=some ⟨b,off,none⟩/\w.cell? ⟨b,off+j*2,none⟩=some (.string us[j].1)/\w.cell? ⟨b,off+j*2+1,none⟩=some (.int .i64 us[j].2)from fun j h=>by
  rcases hel with h0|⟨b,off,e,_,h2⟩
  ·subst h0;simp at h
  ·exact⟨b,off,e,h2 j h⟩)
 rw[hln]at hn ⊢;clear hel hln hlc hcm
 go_enter Tryz.func54,Tryz.ntmps54
 go_wp2_with fail
 go_loopw [3,5,8] (fun o _ i wr=>∃(k:Nat) (a:Option Addr) (c:Nat),k<=n/\i = .int .i64 k/\o = .slice a k c/\Hid (wr.ownsRow w.heap.size 143 2 (.slice a k c) k (uM (us.take k)))/\Below w.heap.size w wr) (fun _ _ i _=>n-(intOf i).toNat)
 case atStart=>exact⟨0,none,0,Nat.zero_le _,rfl,rfl,yH (by simpa[uM]using World.ownsRow_nil _ _ _ _),Below.refl _ _⟩
 case round =>
  obtain⟨k,a,c,hk,rfl,rfl,HOW,hb⟩:=hrel;have e0:(0:Int)<=(k:Int):=Int.natCast_nonneg _;by_cases hlt:k<n
  ·have e1:(k:Int)<(n:Int):=(by omega);have hkl:k<us.length:=(by rw[HL.out];exact hlt);obtain⟨b,off,rfl,c0',c1'⟩:=HC.out k hkl;have c0:=(hb.cell (World.block_lt_of_cell? w _ c0')).trans c0';have c1:=(hb.cell (World.block_lt_of_cell? w _ c1')).trans c1';obtain⟨q,hq⟩:∃q,us[k]=q:=⟨_,rfl⟩;have HT:=yH (show uM (us.take (k+1))=uM (us.take k) ++ [.string q.1,.int .i64 q.2] by rw[List.take_succ_eq_append_getElem hkl,hq,Jl]);rw[hq]at c0 c1;obtain⟨q1,q2⟩:=q;have hsz:=hb.size;clear c0' c1' hq hkl;have hown2:(wr.alloc (.cells #[.string q1,.int .i64 q2] 81)).ownsRow w.heap.size 143 2 (.slice a k c) k (uM (us.take k)):=HOW.out.alloc _;have hnew:((wr.alloc (.cells #[.string q1,.int .i64 q2] 81)).alloc (.cells #[.string q1,.int .i64 q2] 143)).heap[wr.heap.size+1]? = some (.cells #[.string q1,.int .i64 q2] 143 (0,0)):=by
    have:=heap_alloc_new (wr.alloc (.cells #[.string q1,.int .i64 q2] 81)) (.cells #[.string q1,.int .i64 q2] 143)
    simpa using this
   have hnw:=World.news_of_block (cs:=#[.string q1,.int .i64 q2]) (t:=143) (fr:=(0,0)) hnew;have HNW:=yH hnw;clear hnew hnw
   go_wp2_with (at_builtin;go_loud (refine wpList_append_own_at _ rfl _ _ 89 rfl w.heap.size 143 i0 (.agg #[.string ⟨#[]⟩,.int .i64 0]) 2 24 Tryz.underlying89 hi hz0 hz1 hz2 rfl (by decide) _ _ _ rfl (hown2.alloc _) ⟨wr.heap.size+1,0,none⟩ 1 1 [.string q1,.int .i64 q2] rfl rfl (by simpa using HNW.out) (by intro u hu;simp only[List.mem_cons,List.not_mem_nil,or_false]at hu;rcases hu with rfl|rfl<;>rfl) (by unfold maxLen;omega) (by omega) (by simp;omega) ?_;intro v' w8 aV hgrow hnil hat;have pg:=yH aV;have rM:=yH hgrow;clear aV hgrow hnil hat))
   have hba:Below wr.heap.size wr ((wr.alloc (.cells #[.string q1,.int .i64 q2] 81)).alloc (.cells #[.string q1,.int .i64 q2] 143)):=((Below.refl _ wr).alloc (Nat.le_refl _) _).alloc (by simp) _;have uZ:=(hb.trans (hba.mono hb.size)).grown rM.out (by have:=hba.size;omega) (fun g e=>(HOW.out.lt g e).1);obtain⟨a8,c8,rfl⟩:=Tab.aO pg.out;clear hown2
   go_roundw
   case rel=>exact⟨k+1,a8,c8,by omega,by go_num,rfl,yH (by rw[HT.out];exact pg.out),uZ⟩
   case measure=>simp[intOf];omega
  ·obtain rfl:k=n:=(by omega);have HT:=yH (show us.take k=us from List.take_of_length_le (by rw[HL.out];exact Nat.le_refl _))
   go_wp2_with fail
   go_ret;have h1:=HOW.out;rw[HT.out]at h1;refine⟨_,rfl,?_,hb⟩;rcases h1.2 with⟨hv,h0⟩|⟨g,cap',cur,hv,hbg,hg,hnc,hmc,hsz,htk⟩
   ·have zc4:us = []:=List.eq_nil_of_length_eq_zero (by rw[HL.out];exact h0);subst zc4;rw[hv];exact⟨none,0,rfl,Nat.le_refl _,by unfold maxLen;omega,.inl rfl⟩
   ·injection hv with hv1 hv2 hv3;subst hv1;subst hv3;refine⟨some ⟨g,0,none⟩,c,by rw[HL.out];rfl,by rw[HL.out];exact hnc,hmc,.inr ⟨g,0,rfl,⟨hbg,(h1.lt g rfl).2⟩,fun j hj=>?_⟩⟩;have hge:=Ny us j hj;have q1:=World.ownsRow.cells h1 (g:=g) rfl (j*2) _ hge.1;have q2:=World.ownsRow.cells h1 (g:=g) rfl (j*2+1) _ hge.2;rw[Go.WideShapes.add_plain]at q1 q2;exact⟨q1,by rw[Nat.add_assoc];exact q2⟩
end uI

namespace kU
open Go.RowKit Mem Tr St
open Go.Proofs.YtmmmghpimdfleaaGreatDoor.Own
def Nz(w:World)(best:Bst)(D:List ByteArray)(want:Int)(rs:List Rec)(e:Ending)(w':World):Prop :=
 ∃fin v,Fin best D want rs fin/\e = .returned (.tuple #[v,.int .i64 fin.freed])/\w'.ownsRow w.heap.size 9 1 v fin.out.length (fin.out.map .string)/\Below w.heap.size w w'
set_option maxRecDepth 20000 in
theorem za1(M F:Nat->Prop)(s:Nat)(rs:List Rec)(rv:Value)(roots:List ByteArray)(uv:Value)(us:List (ByteArray × Int))(want:Int)(w:World)(h:Is M F w s rs)(hf:Fit rs)
 (hr:Strs (fun b=>b<w.heap.size) w rv roots) (hrl:roots.length<=1048576) (hu:Uses (fun b=>b<w.heap.size) w uv us) (PR:us.length<=2097152) (hus:∀x∈us,x.1.size<=4194304/\x.2<9223372036854775808) :
 Calls Tryz.prog 55 #[.pointer (some ⟨s,0,none⟩),rv,uv,.int .i64 want] w (Nz w (bst (cntF us)) (iE rs roots) want rs):=by
 have hFK:=NC M F s rs w h (by have:=hf.len;omega);have HF:=yH hf;have HR:=yH hr;have HU:=yH hu;have Nu:=yH hus;have HFK:=yH hFK;obtain⟨ao,cap,rfl,_,_,_⟩:=hr;obtain⟨ve,cap3,rfl,_,_,_⟩:=hu;clear h hf hus hFK
 go_enter Tryz.func55,Tryz.ntmps55
 go_wp2_with fail;refine HFK.out.mono ?_;rintro e w1 ⟨M1,F1,s1,rfl,h1,hM1,hF1,b1⟩;have HC:=yH (C9 M1 F1 s1 rs (.slice ao roots.length cap) roots (.slice ve us.length cap3) us want w1 h1 HF.out ((HR.out.below b1).sub fun b h _=>h) hrl ((HU.out.below b1).sub fun b h _=>h) PR Nu.out);have HM:=yH hM1;clear h1 hM1 hF1 HFK
 go_wp2_with fail;refine HC.out.mono ?_;rintro e w2 ⟨fin,v,M2,hfin,rfl,ho,_,hk,_⟩;have HFN:=yH hfin;have HO:=yH ho;have HB:=yH (b1.trans (hk.below (B:=w.heap.size) b1.size (fun i hi hm=>by have:=HM.out i hm;omega)));have hz:=b1.size;clear hfin ho hk HC
 go_wp2_with fail
 go_ret2;refine⟨fin,v,HFN.out,rfl,?_,HB.out⟩;refine⟨HO.out.1,HO.out.2.imp id ?_⟩;rintro⟨g,cp,cur,h1,h2,h3⟩;exact⟨g,cp,cur,h1,Nat.le_trans hz h2,h3⟩
end kU
end Go.Proofs.YtmmmghpimdfleaaGreatDoor
