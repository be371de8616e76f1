/-
  The ak names: Check and Compare.
  The ak wire: Int, U2 and Text.
  The ak trees: room, Own, Entry, zd7, visit and zcf.
  The ak visit (printed by tools/S9.py).
  The ak yw: EO, IG, Parse, Good and IM give the numbers that the program's give.
-/
import Derived.Test.YtmmmghpimdfleaaGreatDoorTk
import Derived.Test.YtmmmghpimdfleaaGreatDoorGrpD
import Derived.Test.YtmmmghpimdfleaaGreatDoorGrpE
import Derived.Test.YtmmmghpimdfleaaGreatDoorGrpF
import Derived.Test.YtmmmghpimdfleaaGreatDoorAppS
import Derived.Lib.ConvBytes
import Derived.Test.YtmmmghpimdfleaaGreatDoorGrpM
import Derived.Test.YtmmmghpimdfleaaGreatDoorGrpA
set_option linter.unusedVariables false
set_option maxHeartbeats 4000000
set_option linter.unusedSimpArgs false
namespace Go.Proofs.YtmmmghpimdfleaaGreatDoor
namespace KF
open Go.RowKit Mem Name
theorem jr{a b:UInt8}(h:a≠b):((a.toNat:Int)==(b.toNat:Int))=false:=by
 rw[beq_eq_false_iff_ne];intro e;exact h (UInt8.toNat_inj.1 (by omega))
theorem take_at(s:ByteArray){k:Nat}(h:k<s.size):s.data.toList.take (k+1)=s.data.toList.take k ++ [s[k]]:=by
 rw[List.take_succ_eq_append_getElem (by simpa using h)];rfl
def cnt(l:List UInt8):Nat:=(l.filter fun b=>b==46).length
theorem cnt_le(l:List UInt8):cnt l<=l.length:=List.length_filter_le _ _
theorem Cf(l:List UInt8)(b:UInt8):cnt (l ++ [b])=cnt l+(if b=46 then 1 else 0):=by
 unfold cnt;rw[List.filter_append,List.length_append];by_cases h:b=46
 ·subst h;rfl
 ·rw[if_neg h];simp[h]
theorem dots(s:ByteArray)(h0:s.size≠0):(cnt s.data.toList=s.size/\cnt s.data.toList<=2)↔(s=⟨#[46]⟩∨s=⟨#[46,46]⟩):=by
 have hsl:s.data.toList.length=s.size:=(by simp);constructor
 ·rintro⟨h1,h2⟩;obtain⟨l,hl⟩:∃l,s.data.toList=l:=⟨_,rfl⟩;rw[hl]at h1 h2 hsl;have he:∀b∈l,b=46:=by
   intro b hb;unfold cnt at h1;rw[←hsl]at h1;have:=List.length_filter_eq_length_iff.1 h1 b hb
   simpa using this
  have hs:∀t:List UInt8,s.data.toList=t->s=⟨t.toArray⟩:=fun t ht=>Lb.str_eq (by simpa using ht)
  match l,hsl,h1,h2,he,hl with
  | [],hsl,_,_,_,_=>simp at hsl;omega
  | [a],_,_,_,he,hl=>left;rw[he a (by simp)]at hl;exact hs _ hl
  | [a,b],_,_,_,he,hl=>right;rw[he a (by simp),he b (by simp)]at hl;exact hs _ hl
  | a :: b :: c :: r,hsl,h1,h2,_,_=>simp only[List.length_cons]at hsl;omega
 ·rintro(rfl|rfl)
  ·exact⟨rfl,by decide⟩
  ·exact⟨rfl,by decide⟩
set_option maxRecDepth 20000 in
theorem zG(s:ByteArray)(w:World)(hs:s.size<=1099511627776) :
 Calls Tryz.prog 229 #[.string s] w fun e w'=>e = .returned (.int .i64 (bK s))/\w=w':=by
 by_cases h1:s.size=0
 ·have e1:((s.size:Int)==0)=true:=(by rw[beq_iff_eq];omega);have HV:=yH (show bK s=50 by unfold bK;rw[if_pos h1])
  go_enter Tryz.func229,Tryz.ntmps229
  go_wp2_with fail
  go_ret;exact⟨by rw[HV.out];rfl,rfl⟩
 have e1:((s.size:Int)==0)=false:=(by rw[beq_eq_false_iff_ne];omega);by_cases h2:255<s.size
 ·have e2:(255:Int)<(s.size:Int):=(by omega);have HV:=yH (show bK s=6 by unfold bK;rw[if_neg h1,if_pos h2])
  go_enter Tryz.func229,Tryz.ntmps229
  go_wp2_with fail
  go_ret;exact⟨by rw[HV.out];rfl,rfl⟩
 have e2:¬(255:Int)<(s.size:Int):=(by omega);have zes:(s.size:Int)<=255:=(by omega);have HV:=yH (show bK s=if s.data.toList.any (fun b=>b==47||b==0)=true then 51 else if s=⟨#[46]⟩∨s=⟨#[46,46]⟩then 52 else 0 by unfold bK;rw[if_neg h1,if_neg h2]);have HDT:=yH (dots s h1);have GR:=yH (show s.data.toList.take s.size=s.data.toList from List.take_of_length_le (by simp));have zcg:=yH (show s.size<=255 by omega);clear h1 h2
 go_enter Tryz.func229,Tryz.ntmps229
 go_wp2_with fail
 go_loopw [3,4] (fun d i wr=>∃k c:Nat,k<=s.size/\i = .int .i64 k/\d = .int .i64 c/\Hid (w=wr)/\Hid (cnt (s.data.toList.take k)=c)/\Hid ((s.data.toList.take k).any (fun b=>b==47||b==0)=false)) (fun _ i _=>s.size-(intOf i).toNat)
 case atStart=>exact⟨0,0,Nat.zero_le _,rfl,rfl,yH rfl,yH rfl,yH rfl⟩
 case round =>
  obtain⟨k,c,hk,rfl,rfl,hw,hc,hi⟩:=hrel;obtain rfl:=hw.out;have e0:(0:Int)<=(k:Int):=Int.natCast_nonneg _;have hcl:c<=255:=(by have h3:=cnt_le (s.data.toList.take k);have h4:=hc.out;have h5:=zcg.out;rw[List.length_take]at h3;omega);by_cases hlt:k<s.size
  ·have e3:(k:Int)<(s.size:Int):=(by omega);have HT:=yH (take_at s hlt);have HBAD:=yH (show(s[k]=47∨s[k]=0)->bK s=51 from fun h=>by
    have h3:s.data.toList.any (fun b=>b==47||b==0)=true:=(by rw[List.any_eq_true];refine⟨s[k],?_,by rcases h with h|h<;>simp[h]⟩;exact List.getElem_mem (l:=s.data.toList) (by simpa using hlt));rw[HV.out,if_pos h3])
   by_cases p1:s[k]=47
   ·have t1:((s[k].toNat:Int)==47)=true:=(by rw[p1];rfl);have HE:=yH (HBAD.out (.inl p1));clear p1
    go_wp2_with fail
    go_ret;exact⟨by rw[HE.out];rfl,rfl⟩
   have t1:((s[k].toNat:Int)==47)=false:=jr (b:=47) p1;by_cases p2:s[k]=0
   ·have t2:((s[k].toNat:Int)==0)=true:=(by rw[p2];rfl);have HE:=yH (HBAD.out (.inr p2));clear p1 p2
    go_wp2_with fail
    go_ret;exact⟨by rw[HE.out];rfl,rfl⟩
   have t2:((s[k].toNat:Int)==0)=false:=jr (b:=0) p2;have HNB:=yH (show(s.data.toList.take (k+1)).any (fun b=>b==47||b==0)=false by
    rw[HT.out,List.any_append,hi.out];simp[p1,p2])
   by_cases p3:s[k]=46
   ·have t3:((s[k].toNat:Int)==46)=true:=(by rw[p3];rfl);have HC:=yH (show cnt (s.data.toList.take (k+1))=c+1 by rw[HT.out,Cf,hc.out,if_pos p3]);clear p1 p2 p3
    go_wp2_with fail
    go_roundw
    case rel=>exact⟨k+1,c+1,by omega,by go_num,by go_num,yH (by trivial),HC,HNB⟩
    case measure=>simp[intOf];omega
   ·have t3:((s[k].toNat:Int)==46)=false:=jr (b:=46) p3;have HC:=yH (show cnt (s.data.toList.take (k+1))=c by rw[HT.out,Cf,hc.out,if_neg p3];rfl);clear p1 p2 p3
    go_wp2_with fail
    go_roundw
    case rel=>exact⟨k+1,c,by omega,by go_num,rfl,yH (by trivial),HC,HNB⟩
    case measure=>simp[intOf];omega
  ·have hk2:k=s.size:=(by omega);subst hk2;have hc2:=hc.out;have hi2:=hi.out;rw[GR.out]at hc2 hi2;have HC2:=yH hc2;have HI2:=yH hi2;have c0:(0:Int)<=(c:Int):=Int.natCast_nonneg _;clear hc hi hc2 hi2;by_cases hd:c=s.size/\c<=2
   ·have t1:((c:Int)==(s.size:Int))=true:=(by rw[beq_iff_eq];omega);have t2:(c:Int)<=2:=(by omega);have HE:=yH (show bK s=52 by rw[HV.out,HI2.out,if_neg (by simp),if_pos (HDT.out.1 (by rw[HC2.out];exact hd))]);clear hd
    go_wp2_with fail
    go_ret;exact⟨by rw[HE.out];rfl,rfl⟩
   ·have HE:=yH (show bK s=0 by rw[HV.out,HI2.out,if_neg (by simp),if_neg (fun h=>hd (by have:=HDT.out.2 h;rw[HC2.out]at this;exact this))]);by_cases hd1:c=s.size
    ·have t1:((c:Int)==(s.size:Int))=true:=(by rw[beq_iff_eq];omega);have t2:¬(c:Int)<=2:=(by omega);clear hd hd1
     go_wp2_with fail
     go_ret;exact⟨by rw[HE.out];rfl,rfl⟩
    ·have t1:((c:Int)==(s.size:Int))=false:=(by rw[beq_eq_false_iff_ne];omega);clear hd hd1
     go_wp2_with fail
     go_ret;exact⟨by rw[HE.out];rfl,rfl⟩
def cmpL:List UInt8->List UInt8->Int
 | [],[]=>0
 | [],_ :: _=>-1
 | _ :: _,[]=>1
 | x :: a,y :: b=>if y<x then 1 else if x<y then -1 else cmpL a b
theorem wB(x y:UInt8)(a b:List UInt8):cmpL (x :: a) (y :: b)=if y<x then 1 else if x<y then -1 else cmpL a b:=rfl
theorem LJ:∀a b:List UInt8,(0<=cmpL a b)↔(Op.bytesLess b a=true∨b=a)
 | [],[]=>by simp[cmpL]
 | [],_ :: _=>by simp[cmpL,Op.bytesLess]
 | _ :: _,[]=>by simp[cmpL,Op.bytesLess]
 | x :: a,y :: b=>by
  have ih:=LJ a b;unfold cmpL Op.bytesLess;by_cases h1:y<x
  ·rw[if_pos h1];simp[h1]
  ·rw[if_neg h1];by_cases h2:x<y
   ·rw[if_pos h2];have h3:y≠x:=fun e=>by subst e;exact UInt8.lt_irrefl _ h2
    simp[h1,h3]
   ·rw[if_neg h2];have h3:y=x:=UInt8.le_antisymm (UInt8.not_lt.1 h2) (UInt8.not_lt.1 h1);subst h3;rw[ih];simp
theorem GI(p nm:ByteArray):(0<=cmpL p.data.toList nm.data.toList)↔jC.leB nm p=true:=by
 unfold jC.leB;rw[LJ,ByteArray.toList_eq,ByteArray.toList_eq];simp
theorem drop_at(s:ByteArray){k:Nat}(h:k<s.size):s.data.toList.drop k=s[k] :: s.data.toList.drop (k+1):=by
 rw[List.drop_eq_getElem_cons (by simpa using h)];rfl
theorem drop_nil(s:ByteArray){k:Nat}(h:s.size<=k):s.data.toList.drop k = []:=List.drop_eq_nil_of_le (by simpa using h)
set_option maxRecDepth 20000 in
theorem BN(a b:ByteArray)(w:World)(ha:a.size<=1099511627776)(hb:b.size<=1099511627776) :
 Calls Tryz.prog 230 #[.string a,.string b] w fun e w'=>e = .returned (.int .i64 (cmpL a.data.toList b.data.toList))/\Dn w w':=by
 go_enter Tryz.func230,Tryz.ntmps230
 go_wp2_with fail
 go_loopw [5] (fun i wr=>∃k:Nat,k<=a.size/\k<=b.size/\i = .int .i64 k/\Dn w wr/\Hid (cmpL a.data.toList b.data.toList=cmpL (a.data.toList.drop k) (b.data.toList.drop k))) (fun i _=>a.size-(intOf i).toNat)
 case atStart=>exact⟨0,Nat.zero_le _,Nat.zero_le _,rfl,Dn.refl _,yH rfl⟩
 case round =>
  obtain⟨k,hk,hkb,rfl,dn,hi⟩:=hrel;have e0:(0:Int)<=(k:Int):=Int.natCast_nonneg _;by_cases h1:k<a.size
  ·have e1:(k:Int)<(a.size:Int):=(by omega);have t1:((k:Int)==(a.size:Int))=false:=(by rw[beq_eq_false_iff_ne];omega);have HA:=yH (drop_at a h1);by_cases h2:k<b.size
   ·have e2:(k:Int)<(b.size:Int):=(by omega);have t2:((k:Int)==(b.size:Int))=false:=(by rw[beq_eq_false_iff_ne];omega);have HB:=yH (drop_at b h2);by_cases p1:b[k]<a[k]
    ·have t3:(b[k].toNat:Int)<(a[k].toNat:Int):=(by have:=UInt8.lt_iff_toNat_lt.1 p1;omega);have HE:=yH (show cmpL a.data.toList b.data.toList=1 by rw[hi.out,HA.out,HB.out];rw[wB,if_pos p1]);clear p1
     go_wp2_with fail
     go_quiet (fail)
     go_wp2_with fail
     go_ret;exact⟨by rw[HE.out];rfl,by first|exact dn.trans (Dn.drewN _ _)|exact(dn.trans (Dn.drewN _ _)).trans (Dn.drewN _ _)⟩
    have t3:¬(b[k].toNat:Int)<(a[k].toNat:Int):=(by intro h;exact p1 (UInt8.lt_iff_toNat_lt.2 (by omega)));by_cases p2:a[k]<b[k]
    ·have t4:(a[k].toNat:Int)<(b[k].toNat:Int):=(by have:=UInt8.lt_iff_toNat_lt.1 p2;omega);have HE:=yH (show cmpL a.data.toList b.data.toList = -1 by rw[hi.out,HA.out,HB.out];rw[wB,if_neg p1,if_pos p2]);clear p1 p2
     go_wp2_with fail
     go_quiet (fail)
     go_wp2_with fail
     go_quiet (fail)
     go_wp2_with fail
     go_ret;exact⟨by rw[HE.out];rfl,by first|exact dn.trans (Dn.drewN _ _)|exact(dn.trans (Dn.drewN _ _)).trans (Dn.drewN _ _)⟩
    ·have t4:¬(a[k].toNat:Int)<(b[k].toNat:Int):=(by intro h;exact p2 (UInt8.lt_iff_toNat_lt.2 (by omega)));have HE:=yH (show cmpL a.data.toList b.data.toList=cmpL (a.data.toList.drop (k+1)) (b.data.toList.drop (k+1)) by rw[hi.out,HA.out,HB.out,wB,if_neg p1,if_neg p2]);clear p1 p2
     go_wp2_with fail
     go_quiet (fail)
     go_wp2_with fail
     go_quiet (fail)
     go_wp2_with fail
     go_roundw
     case rel=>exact⟨k+1,by omega,by omega,by go_num,dn.trans (Dn.drewN _ _),HE⟩
     case measure=>simp[intOf];omega
   ·have t2:((k:Int)==(b.size:Int))=true:=(by rw[beq_iff_eq];omega);have HE:=yH (show cmpL a.data.toList b.data.toList=1 by rw[hi.out,HA.out,drop_nil b (by omega)];rfl)
    go_wp2_with fail
    go_quiet (fail)
    go_wp2_with fail
    go_ret;exact⟨by rw[HE.out];rfl,by first|exact dn.trans (Dn.drewN _ _)|exact(dn.trans (Dn.drewN _ _)).trans (Dn.drewN _ _)⟩
  ·have hk2:k=a.size:=(by omega);have e1:¬(k:Int)<(a.size:Int):=(by omega);have t1:((k:Int)==(a.size:Int))=true:=(by rw[beq_iff_eq];omega);by_cases h2:k<b.size
   ·have e2:(k:Int)<(b.size:Int):=(by omega);have HE:=yH (show cmpL a.data.toList b.data.toList = -1 by rw[hi.out,drop_at b h2,drop_nil a (by omega)];rfl)
    go_wp2_with fail
    go_ret;exact⟨by rw[HE.out];rfl,dn⟩
   ·have e2:¬(k:Int)<(b.size:Int):=(by omega);have HE:=yH (show cmpL a.data.toList b.data.toList=0 by rw[hi.out,drop_nil b (by omega),drop_nil a (by omega)];rfl)
    go_wp2_with fail
    go_ret;exact⟨by rw[HE.out];rfl,dn⟩
end KF

namespace DWi
open Go.RowKit Mem J4 lK
theorem zch(n k:Nat):n / 2 ^ (8*(k+1))=n / 2 ^ (8*k) / 256:=by
 rw[Nat.div_div_eq_div_mul,show 2 ^ (8*(k+1))=2 ^ (8*k)*256 by rw[show 8*(k+1)=8*k+8 by omega,Nat.pow_add]]
theorem Tu:(Tryz.prog.info? 5).map (fun i=>(i.zero,i.size,i.bytes))=some (some (.int .u8 0),1,1):=by kernel_rfl
theorem Va(n:Nat)(w:World)(hn:n<18446744073709551616) :
 Calls Tryz.prog 209 #[.int .u64 (n:Int)] w fun e w'=>e = .returned (.string ⟨(Rep.oO n).toArray⟩)/\Below w.heap.size w w':=by
 obtain⟨i0,hi,hz0,hz1,hz2⟩:=info_parts Tu;have HN:=yH hn;clear hn
 go_enter Tryz.func209,Tryz.ntmps209
 go_wp2_with (at_make;refine wpList_make_full _ rfl _ _ 108 rfl w.heap.size 5 i0 (.int .u8 0) 1 Tryz.underlying108 hi hz0 hz1 .i64 .i64 _ _ 8 rfl rfl ?c1 ?c2 ?c3 ?c4 ?c5 ?_)
 case c1=>rfl
 case c2=>rfl
 case c3=>rw[hz2];decide
 case c4=>unfold maxLen;decide
 case c5=>exact Nat.le_refl _
 intro w1 hown hgrow;have hown0:w1.ownsRow w.heap.size 5 1 (.slice (some ⟨w.heap.size,0,none⟩) 8 8) 8 (Lib.byteCells (Rep.Ci n 0)):=by
  rw[Rep.Cj];rw[toList_madeCells_one]at hown
  simpa[Lib.byteCells]using hown
 clear hown
 go_wp2_with fail
 go_loopw [0,4] (fun v i wr=>∃k q:Nat,k<=8/\i = .int .i64 k/\v = .int .u64 q/\Hid (q=n / 2 ^ (8*k))/\wr.ownsRow w.heap.size 5 1 (.slice (some ⟨w.heap.size,0,none⟩) 8 8) 8 (Lib.byteCells (Rep.Ci n k))/\Below w.heap.size w wr) (fun _ i _=>8-(intOf i).toNat)
 case atStart=>exact⟨0,n,by omega,rfl,rfl,yH (by simp),hown0,(Below.refl _ _).grown hgrow (Nat.le_refl _) (by simp)⟩
 case round =>
  obtain⟨k,q,hk,rfl,rfl,hq,hrow,hb⟩:=hrel;have k0:(0:Int)<=(k:Int):=Int.natCast_nonneg _;by_cases hlt:k<8
  ·have k1:(k:Int)<8:=(by omega);have q0:(0:Int)<=(q:Int):=Int.natCast_nonneg _;have HR:=yH hrow;have hfz:wr.frozen? ⟨w.heap.size,k,none⟩=false:=hrow.frozenAt _;obtain⟨u,hcell⟩:∃u,wr.cell? ⟨w.heap.size,k,none⟩=some u:=⟨_,by rw[hrow.cellAt _ hlt];exact List.getElem?_eq_getElem (by simp[Lib.byteCells,Rep.wC,hlt])⟩;have hq1:(q:Int) % 256=((UInt8.ofNat (n / 2 ^ (8*k) % 256)).toNat:Int):=(by rw[UInt8.toNat_ofNat_of_lt' (by show _<256;omega),hq.out];omega);have HQ1:=yH hq1;have hw8:IntKind.u8.wrap ((q:Int) % 256)=(q:Int) % 256:=(by rw[IntKind.wrap_u8];omega);have hw64:IntKind.u64.wrap ((q:Int) / 256)=(q:Int) / 256:=(by rw[IntKind.wrap_u64];have h1:=HN.out;have h2:q<=n:=(by rw[hq.out];exact Nat.div_le_self _ _);omega);clear hrow hq1
   go_wp2_with fail
   go_roundw
   case rel =>
    refine⟨k+1,q / 256,by omega,by go_num,by go_num,yH (by rw[hq.out,zch]),?_,hb.setCell (p:=⟨w.heap.size,k,none⟩) (Nat.le_refl _) _⟩;have:=(HR.out.stored k (.int .u8 ((UInt8.ofNat (n / 2 ^ (8*k) % 256)).toNat:Int))).1;rw[Lb.dM,Rep.GU n k hlt,←HQ1.out]at this;exact this
   case measure=>simp[intOf];omega
  ·obtain rfl:k=8:=(by omega);rw[Rep.CB]at hrow;have hcv:=Lb.kY (P:=Tryz.prog) Tryz.underlying108 Tryz.underlying5 Tryz.underlying9 (by rw[Rep.fC]) hrow
   go_wp2_with fail
   go_ret;exact⟨rfl,hb⟩
theorem aS(n:Nat)(w:World)(hn:n<=1099511627776) :
 Calls Tryz.prog 239 #[.int .i64 (n:Int)] w fun e w'=>e = .returned (.int .i64 (dQ n:Int))/\w=w':=by
 have h0:¬(n:Int)<0:=(by omega);have h1:¬(1099511627776:Int)<(n:Int):=(by omega)
 go_enter Tryz.func239,Tryz.ntmps239
 go_wp2_with fail
 go_loopw [0] (fun v wr=>∃m:Nat,v = .int .i64 m/\n<=m/\m<=1099511627784/\Hid (dQ m=dQ n)/\Hid (w=wr)) (fun v _=>(8-(intOf v).toNat % 8) % 8)
 case atStart=>exact⟨n,rfl,Nat.le_refl _,by omega,yH rfl,yH rfl⟩
 case round =>
  obtain⟨m,rfl,hnm,hm,hf,hw⟩:=hrel;obtain rfl:=hw.out;have m0:(0:Int)<=(m:Int):=Int.natCast_nonneg _;by_cases h8:m % 8=0
  ·have t1:(((m:Int).tmod 8) != 0)=false:=(by rw[Int.tmod_eq_emod_of_nonneg m0,bne_eq_false_iff_eq];omega);have HF:=yH (show((dQ n:Nat):Int)=(m:Int)+8 by rw[←hf.out];unfold dQ;omega)
   go_wp2_with fail
   go_ret;exact⟨by rw[HF.out];rfl,rfl⟩
  ·have t1:(((m:Int).tmod 8) != 0)=true:=(by rw[Int.tmod_eq_emod_of_nonneg m0,bne_iff_ne];omega);have HF:=yH (show dQ (m+1)=dQ n by rw[←hf.out];unfold dQ;omega)
   go_wp2_with fail
   go_roundw
   case rel=>exact⟨m+1,by go_num,by omega,by omega,HF,yH (by trivial)⟩
   case measure=>simp[intOf];omega
/-- Bytes in a block of the call's own, told by its cells. -/
structure ni(B:Nat)(w:World)(v:Value)(l:List UInt8):Prop where
 ex:∃g cap,v = .slice (some ⟨g,0,none⟩) l.length cap/\B<=g/\g<w.heap.size/\l.length<=cap/\cap<=maxLen/\(∀j (h:j<l.length),w.cell? ⟨g,j,none⟩=some (.int .u8 (l[j].toNat:Int)))/\∀j,j<cap->(w.cell? ⟨g,j,none⟩).isSome=true/\w.frozen? ⟨g,j,none⟩=false
theorem ni.below{B:Nat}{w w':World}{v:Value}{l:List UInt8}(h:ni B w v l)(hb:Below w.heap.size w w'):ni B w' v l:=by
 obtain⟨g,cap,e,h1,h2,h3,h4,h5,h6⟩:=h;have hc:∀j,w'.cell? ⟨g,j,none⟩=w.cell? ⟨g,j,none⟩:=fun j=>World.cell?_of_block (hb.block g h2)
 exact⟨g,cap,e,h1,Nat.lt_of_lt_of_le h2 hb.size,h3,h4,fun j hj=>(hc j).trans (h5 j hj),fun j hj=>⟨by rw[hc j];exact(h6 j hj).1,(World.frozen?_of_block (a:=⟨g,j,none⟩) (hb.block g h2)).trans (h6 j hj).2⟩⟩
theorem ni.bU{B:Nat}{w:World}{v:Value}{l:List UInt8}(h:w.ownsRow B 5 1 v l.length (Lib.byteCells l))(h0:l≠[]):ni B w v l:=by
 rcases h.2 with⟨_,hn⟩|⟨g,cap,cur,rfl,hb,hg,hn,hc,hsz,htk⟩
 ·exact absurd (List.eq_nil_of_length_eq_zero hn) h0
 ·refine⟨g,cap,rfl,hb,(h.lt g rfl).2,hn,hc,fun j hj=>?_,fun j hj=>?_⟩
  ·have:=h.cellAt j (by omega);rw[this,Lb.di,List.getElem?_eq_getElem hj];rfl
  ·refine⟨?_,h.frozenAt j⟩;have hs:cur.size=cap:=(by rw[hsz,Nat.mul_one]);simp only[World.cell?,hg];simp[hs,hj]
theorem ni.add{B:Nat}{w:World}{v:Value}{l:List UInt8}(h:ni B w v l)(hB:B<=w.heap.size)(hl:l.length<=4194304){a:Nat}{x:UInt8}{c:Nat}(ha:w.cell? ⟨a,0,none⟩=some (.int .u8 (x.toNat:Int))) :
 ∃v' w',(Builtin.append_ #[108,108] 108 #[v,.slice (some ⟨a,0,none⟩) 1 c]).run Tryz.prog w = .ok v' w'/\ni B w' v' (l ++ [x])/\Below B w w':=by
 obtain⟨i0,hi,hz0,hz1,hz2⟩:=info_parts Tu;obtain⟨g,cap,rfl,h1,h2,h3,h4,h5,h6⟩:=h;have hnews:∀j u,[Value.int .u8 (x.toNat:Int)][j]? = some u->w.cell? ((⟨a,0,none⟩:Addr).add j)=some u:=fun j u hj=>by
  match j,hj with
  | 0,hj=>cases hj;rw[Go.WideShapes.add_plain];exact ha
 by_cases hr:l.length+1<=cap
 ·have hrun:=run_append_room_cells (P:=Tryz.prog) w 108 108 5 i0 Tryz.underlying108 hi g 0 l.length cap ⟨a,0,none⟩ 1 c [.int .u8 (x.toNat:Int)] (by rw[hz1];rfl) hnews (by simp[Value.oneCell']) hr (fun j hj=>by
   have hj0:j=0:=(by simpa using hj);subst hj0;rw[hz1]
   simpa using(h6 l.length (by omega)).1) (fun j hj=>by
   have hj0:j=0:=(by simpa using hj);subst hj0;rw[hz1]
   simpa using(h6 l.length (by omega)).2)
  rw[hz1,Nat.zero_add,Nat.mul_one]at hrun;have hbl:Below B w (w.setCells g l.length [.int .u8 (x.toNat:Int)]):=(Below.refl B w).setCell (p:=⟨g,l.length,none⟩) h1 _;refine⟨_,_,hrun,⟨g,cap,by simp,h1,Nat.lt_of_lt_of_le h2 hbl.size,by simpa using hr,h4,fun j hj=>?_,fun j hj=>⟨World.isSome_setCells g _ _ w _ (h6 j hj).1,by rw[World.frozen?_setCells];exact(h6 j hj).2⟩⟩,hbl⟩;simp only[List.length_append,List.length_singleton]at hj;by_cases he:j=l.length
  ·subst he;have:=World.rangeAt_setCells_same w g l.length [.int .u8 (x.toNat:Int)] (fun i hi=>by
    have hi0:i=0:=(by simpa using hi);subst hi0;exact h6 l.length (by omega)) 0 _ rfl
   rw[Nat.add_zero]at this;rw[this];simp
  ·rw[World.cell?_setCells_out _ _ _ _ _ (fun _ _=>.inl (by show j<l.length;omega)),h5 j (by omega),List.getElem_append_left (by omega)]
 ·obtain⟨v',w',hrun,hown,hg⟩:=run_append_arg_grows (P:=Tryz.prog) w 108 108 5 i0 (.int .u8 0) 1 1 Tryz.underlying108 hi hz0 hz1 hz2 rfl (by decide) ⟨g,0,none⟩ l.length cap (Lib.byteCells l) (by simp[Lib.byteCells]) (fun j u hj=>by
   rw[Go.WideShapes.add_plain,Nat.zero_add];rw[Lb.di]at hj;obtain⟨y,hy,rfl⟩:=Option.map_eq_some_iff.1 hj;obtain⟨hjl,rfl⟩:=List.getElem?_eq_some_iff.1 hy;exact h5 j hjl) ⟨a,0,none⟩ 1 c [.int .u8 (x.toNat:Int)] rfl hnews (by omega) (by unfold maxLen;omega) (by omega)
  have hown2:w'.ownsRow w.heap.size 5 1 v' (l ++ [x]).length (Lib.byteCells (l ++ [x])):=(by rw[Lib.byteCells_append,List.length_append];exact hown);have hr:=ni.bU hown2 (by simp);obtain⟨g',cap',e,k1,k2⟩:=hr.ex;exact⟨v',w',hrun,⟨g',cap',e,Nat.le_trans hB k1,k2⟩,(Below.refl B w).grown hg hB (by simp)⟩
theorem ni.str{B:Nat}{w:World}{v:Value}{l:List UInt8}(h:ni B w v l):(convert 108 9 v).run Tryz.prog w = .ok (.string ⟨l.toArray⟩) w:=by
 obtain⟨g,cap,rfl,h1,h2,h3,h4,h5,h6⟩:=h;have:=run_convert_bytes_arg (P:=Tryz.prog) w 108 5 Tryz.underlying108 Tryz.underlying5 g 0 l.length cap (l.map fun b=>(b.toNat:Int)) (by simp) (fun i hi=>by
  rw[Nat.zero_add,h5 i hi];simp[List.getD,hi]) 9 Tryz.underlying9
 rw[Lb.strOfNums_bytes]at this;exact this
theorem ni.Vb(w:World)(s:ByteArray)(hs:s.size<=4194304):∃v w',(convert 9 108 (.string s)).run Tryz.prog w = .ok v w'/\ni w.heap.size w' v s.data.toList/\Below w.heap.size w w':=by
 have hsz:∀c,(Lib.bytesWorld w 5 s).cell? ⟨w.heap.size,c,none⟩=(Lib.bytesCells w 5 s)[c]?:=fun c=>by
  simp only[World.cell?,Lib.bytesWorld_at_new];rfl
 have hge:=grownCap_ge w s.size 0 5;have hcl:(Lib.bytesCells w 5 s).size=grownCap w s.size 0 5:=(by unfold Lib.bytesCells;have:s.data.size=s.size:=rfl;simp;omega);refine⟨_,_,Lib.run_convert_string_bytes w 9 108 5 s Tryz.underlying9 Tryz.underlying108 Tryz.underlying5,⟨w.heap.size,grownCap w s.size 0 5,by simp,Nat.le_refl _,by rw[Lib.bytesWorld_size];omega,by simpa using hge,grownCap_le_maxLen w s.size 0 _ (by unfold maxLen;omega),fun j hj=>?_,fun j hj=>⟨?_,?_⟩⟩,?_⟩
 ·have hj2:j<s.size:=(by simpa using hj);rw[Lib.bytesWorld_cell w _ s j hj2,List.getD_eq_getElem?_getD,List.getElem?_eq_getElem hj];rfl
 ·rw[hsz,Array.getElem?_eq_getElem (by rw[hcl];exact hj)];rfl
 ·simp only[World.frozen?,Lib.bytesWorld_at_new,hcl];simp;omega
 ·exact⟨rfl,rfl,rfl,by rw[Lib.bytesWorld_size];omega,fun i hi=>Lib.bytesWorld_at_old w _ s i hi⟩
/-- The bytes behind k rounds. -/
def tx(l:List UInt8)(k:Nat):List UInt8:=Rep.oO l.length++(l++List.replicate (k-l.length) 0).take k
theorem Qg(l:List UInt8):tx l 0=Rep.oO l.length:=by simp[tx]
theorem Zy(l:List UInt8){k:Nat}(h:k<l.length):tx l (k+1)=tx l k ++ [l[k]]:=by
 unfold tx;rw[show k+1-l.length=0 by omega,show k-l.length=0 by omega];simp only[List.replicate_zero,List.append_nil];rw[List.take_succ_eq_append_getElem h,List.append_assoc]
theorem Vd(l:List UInt8){k:Nat}(h:l.length<=k):tx l (k+1)=tx l k ++ [0]:=by
 unfold tx;have e1:∀m,l.length<=m->(l++List.replicate (m-l.length) (0:UInt8)).take m=l++List.replicate (m-l.length) 0:=fun m hm=>List.take_of_length_le (by simp;omega)
 rw[e1 _ h,e1 _ (by omega),show k+1-l.length=(k-l.length)+1 by omega,List.replicate_succ',List.append_assoc,List.append_assoc]
theorem Ve(l:List UInt8):tx l ((l.length+7) / 8*8)=word l:=by
 unfold tx word;have e:(l.length+7) / 8*8-l.length=(8-l.length % 8) % 8:=(by omega);rw[e,List.take_of_length_le (by simp;omega),List.append_assoc]
theorem Vf(l:List UInt8)(k:Nat):(tx l k).length=8+k:=by
 unfold tx;simp[Rep.fC];omega
set_option maxRecDepth 20000 in
theorem GV(s:ByteArray)(w:World)(hs:s.size<=2097152) :
 Calls Tryz.prog 177 #[.string s] w fun e w'=>e = .returned (.string ⟨(word s.data.toList).toArray⟩)/\Below w.heap.size w w':=by
 have hsl:s.data.toList.length=s.size:=(by simp);have GR:=yH hsl;have hwr:IntKind.u64.wrap (s.size:Int)=(s.size:Int):=(by rw[IntKind.wrap_u64];omega);obtain⟨P,hP⟩:∃P,(s.size+7) / 8*8=P:=⟨_,rfl⟩;have hP8:P % 8=0:=(by omega);have hPs:s.size<=P/\P<=s.size+7:=(by omega);have HP:=yH (show tx s.data.toList P=word s.data.toList by rw[←hP,←hsl];exact Ve _);clear hP hsl
 go_enter Tryz.func177,Tryz.ntmps177
 go_wp2_with fail;refine(Va s.size w (by omega)).mono ?_;rintro e w1 ⟨rfl,b1⟩;obtain⟨v0,w2,hcv,hrow,b2⟩:=ni.Vb w1 ⟨(Rep.oO s.size).toArray⟩ (by show(Rep.oO s.size).toArray.size<=_;rw[List.size_toArray,Rep.fC];decide);have c2:=b1.trans (b2.mono b1.size);have hrow2:ni w.heap.size w2 v0 (tx s.data.toList 0):=by
  rw[Qg,GR.out];obtain⟨g,cap,e,k1,k2⟩:=hrow.ex;exact⟨g,cap,e,Nat.le_trans b1.size k1,k2⟩
 have HR0:=yH hrow2;clear hrow hrow2 b1 b2
 go_wp2_with fail
 go_loopw [3,4] (fun v i wr=>∃k:Nat,k<=P/\i = .int .i64 k/\Hid (ni w.heap.size wr v (tx s.data.toList k))/\Below w.heap.size w wr) (fun _ i _=>P-(intOf i).toNat)
 case atStart=>exact⟨0,Nat.zero_le _,rfl,HR0,c2⟩
 case round =>
  obtain⟨k,hk,rfl,hr,hb⟩:=hrel;have e0:(0:Int)<=(k:Int):=Int.natCast_nonneg _;have HTL:=yH (Vf s.data.toList k);by_cases hlt:k<s.size
  ·have e1:(k:Int)<(s.size:Int):=(by omega);have hba:Below wr.heap.size wr (wr.alloc (.cells #[.int .u8 (s[k].toNat:Int)] 5)):=(Below.refl _ wr).alloc (Nat.le_refl _) _;obtain⟨v',w',hrun,hr',hb'⟩:=(hr.out.below hba).add (a:=wr.heap.size) (x:=s[k]) (c:=1) (Nat.le_trans hb.size hba.size) (by have:=HTL.out;omega) (by rw[World.cell?_alloc_new];rfl);have HRN:=yH (show ni w.heap.size w' v' (tx s.data.toList (k+1)) by
    rw[Zy s.data.toList (by rw[GR.out];exact hlt)];exact hr')
   have HBN:=yH ((hb.trans (hba.mono hb.size)).trans hb');clear hr' hb' hba
   go_wp2_with (at_builtin;go_loud (refine Iy.wpList_append_run rfl _ _ 108 rfl _ _ _ _ rfl rfl hrun ?_))
   go_roundw
   case rel=>exact⟨k+1,by omega,by go_num,HRN,HBN.out⟩
   case measure=>simp[intOf];omega
  ·have e1:¬(k:Int)<(s.size:Int):=(by omega);by_cases h8:k % 8=0
   ·have t1:(((k:Int).tmod 8) != 0)=false:=(by rw[Int.tmod_eq_emod_of_nonneg e0,bne_eq_false_iff_eq];omega);obtain rfl:k=P:=(by omega);have hR:=hr.out;rw[HP.out]at hR;have hcv:=hR.str
    go_wp2_with fail
    go_ret;exact⟨rfl,hb⟩
   ·have t1:(((k:Int).tmod 8) != 0)=true:=(by rw[Int.tmod_eq_emod_of_nonneg e0,bne_iff_ne];omega);have hba:Below wr.heap.size wr (wr.alloc (.cells #[.int .u8 0] 5)):=(Below.refl _ wr).alloc (Nat.le_refl _) _;obtain⟨v',w',hrun,hr',hb'⟩:=(hr.out.below hba).add (a:=wr.heap.size) (x:=0) (c:=1) (Nat.le_trans hb.size hba.size) (by have:=HTL.out;omega) (by rw[World.cell?_alloc_new];rfl);have HRN:=yH (show ni w.heap.size w' v' (tx s.data.toList (k+1)) by
     rw[Vd s.data.toList (by rw[GR.out];omega)];exact hr')
    have HBN:=yH ((hb.trans (hba.mono hb.size)).trans hb');clear hr' hb' hba
    go_wp2_with (at_builtin;go_loud (refine Iy.wpList_append_run rfl _ _ 108 rfl _ _ _ _ rfl rfl hrun ?_))
    go_roundw
    case rel=>exact⟨k+1,by omega,by go_num,HRN,HBN.out⟩
    case measure=>simp[intOf];omega
end DWi

namespace Gz
open Go.RowKit Mem Tr lK jB jC Name
theorem zW(l:List ByteArray){k:Nat}(h:k<l.length):aj (l.take (k+1))=aj (l.take k)+dQ l[k].size:=by
 rw[List.take_succ_eq_append_getElem h,dR];rfl
theorem bM(l:List ByteArray)(B:Nat)(h:∀s∈l,s.size<=B):aj l<=l.length*(B+15):=by
 induction l with
 | nil=>simp[aj]
 | cons s r ih =>
  have h1:=ih (fun x hx=>h x (List.mem_cons_of_mem _ hx));have h2:=h s (by simp);have h3:=gW s.size;simp only[aj,List.length_cons,Nat.succ_mul];omega
set_option maxRecDepth 20000 in
theorem yB(b c:Nat)(l:List ByteArray)(w:World)(hc:∀j (h:j<l.length),w.cell? ⟨b,j,none⟩=some (.string l[j]))(hn:l.length<=1024)(hs:∀s∈l,s.size<=4194304) :
 Calls Tryz.prog 232 #[.slice (some ⟨b,0,none⟩) l.length c] w fun e w'=>e = .returned (.int .i64 (aj l:Nat))/\w=w':=by
 obtain⟨n,hln⟩:∃n,l.length=n:=⟨_,rfl⟩;have HL:=yH hln;have HC:=yH hc;have HS:=yH hs;rw[hln]at hn ⊢;clear hc hs hln
 go_enter Tryz.func232,Tryz.ntmps232
 go_wp2_with fail
 go_loopw [3,4] (fun t i wr=>∃k a:Nat,k<=n/\i = .int .i64 k/\t = .int .i64 a/\Hid (w=wr)/\Hid (aj (l.take k)=a)) (fun _ i _=>n-(intOf i).toNat)
 case atStart=>exact⟨0,0,Nat.zero_le _,rfl,rfl,yH rfl,yH rfl⟩
 case round =>
  obtain⟨k,a,hk,rfl,rfl,hw,hi⟩:=hrel;obtain rfl:=hw.out;have e0:(0:Int)<=(k:Int):=Int.natCast_nonneg _;by_cases hlt:k<n
  ·have e1:(k:Int)<(n:Int):=(by omega);have hkl:k<l.length:=(by rw[HL.out];exact hlt);have hcell:=HC.out k hkl;have hsz:=HS.out l[k] (List.getElem_mem hkl);have HT:=yH (zW l hkl);have hal:a<=1024*4194320:=(by have h1:=bM (l.take k) 4194304 (fun s h=>HS.out s (List.mem_of_mem_take h));have h2:(l.take k).length<=1024:=(by rw[List.length_take];omega);have h3:=Nat.mul_le_mul_right (4194304+15) h2;have h4:=hi.out;omega);obtain⟨p,hp⟩:∃p,l[k]=p:=⟨_,rfl⟩;rw[hp]at hcell hsz HT;clear hkl hp
   go_wp2_with fail;refine(DWi.aS p.size w (by omega)).mono ?_;rintro e w1 ⟨rfl,hw1⟩;subst hw1;have hfl:=gW p.size;have HF:=yH (show aj (l.take (k+1))=a+dQ p.size by rw[HT.out,hi.out]);generalize dQ p.size=f at *
   go_wp2_with fail
   go_roundw
   case rel=>exact⟨k+1,a+f,by omega,by go_num,by go_num,yH (by trivial),HF⟩
   case measure=>simp[intOf];omega
  ·have hk2:n=k:=(by omega);have e4:((n:Nat):Int)=(k:Int):=(by omega);have HF:=yH (show aj l=a by rw[←hi.out,List.take_of_length_le (by rw[HL.out];omega)])
   go_wp2_with fail
   go_ret;exact⟨by rw[HF.out];rfl,rfl⟩
set_option maxRecDepth 20000 in
theorem Vg(w:World) :
 Calls Tryz.prog 208 #[] w fun e w'=>e = .returned (.int .i64 (aj J4.kP:Nat))/\Below w.heap.size w w':=by
 go_enter Tryz.func208,Tryz.ntmps208
 go_wp2_with fail;obtain⟨w1,hw1⟩:∃W,w.alloc (.cells #[.string ⟨#[100,101,112,111,116,45,97,114,99,104,105,118,101,45,49]⟩] 9)=W:=⟨_,rfl⟩;rw[hw1];obtain⟨b1,x1⟩:=af hw1;clear hw1;refine(yB w.heap.size 1 J4.kP w1 (fun j hj=>?_) (by decide) (by decide)).mono ?_
 ·match j,hj with
  | 0,_=>exact x1.cell 0
 rintro e w2 ⟨rfl,hw2⟩;subst hw2
 go_wp2_with fail
 go_ret;exact⟨rfl,b1⟩
set_option maxRecDepth 20000 in
theorem zK(t:ByteArray)(w:World)(Vh:t.size<=4194304) :
 Calls Tryz.prog 231 #[.string t] w fun e w'=>e = .returned (.int .i64 (dJ t:Nat))/\Below w.heap.size w w':=by
 go_enter Tryz.func231,Tryz.ntmps231
 go_wp2_with fail;refine ae fun w2 hw=>?_
 obtain⟨b2,x2⟩:=af hw;clear hw;refine(yB _ 6 [⟨#[101,110,116,114,121]⟩,⟨#[40]⟩,⟨#[110,97,109,101]⟩,t,⟨#[110,111,100,101]⟩,⟨#[41]⟩] w2 (fun j hj=>?_) (by simp) (fun s hs=>?_)).mono ?_
 ·match j,hj with
  | 0,_=>exact x2.cell 0
  | 1,_=>exact x2.cell 1
  | 2,_=>exact x2.cell 2
  | 3,_=>exact x2.cell 3
  | 4,_=>exact x2.cell 4
  | 5,_=>exact x2.cell 5
 ·simp only[List.mem_cons,List.not_mem_nil,or_false]at hs;rcases hs with rfl|rfl|rfl|rfl|rfl|rfl<;>first|exact Vh|decide
 rintro e w9 ⟨rfl,Qh⟩;subst Qh
 go_wp2_with fail
 go_ret;exact⟨rfl,b2⟩
def LK(k:Int)(ex:Bool)(t:ByteArray)(nk:Nat):Value :=
 if aG k ex t nk=0 then .tuple #[.int .i64 0,.int .i64 (gG k ex t:Nat)]else .tuple #[.int .i64 (aG k ex t nk),.int .i64 0]
theorem jK{k:Int}{ex:Bool}{t:ByteArray}{nk:Nat}{c:Int}(h:aG k ex t nk=c)(h0:c≠0):LK k ex t nk = .tuple #[.int .i64 c,.int .i64 0]:=by
 unfold LK;rw[if_neg (by rw[h];exact h0),h]
theorem oD{k:Int}{ex:Bool}{t:ByteArray}{nk:Nat}{n:Nat}(h:aG k ex t nk=0)(h2:gG k ex t=n):LK k ex t nk = .tuple #[.int .i64 0,.int .i64 (n:Nat)]:=by
 unfold LK;rw[if_pos h,h2]
def Ei(l:List UInt8):Bool:=l.all fun b=>b != 0
theorem EX(t:ByteArray):iQ t=if decide (0<t.size)&&Ei t.data.toList then 0 else 63:=by
 unfold iQ;have h:(0<=yu.first t.data.toList 0)↔Ei t.data.toList=false:=by
  unfold yu.first
  cases hf:t.data.toList.findIdx? (fun b=>b==0)with
  | none =>
   rw[List.findIdx?_eq_none_iff]at hf;have:Ei t.data.toList=true:=List.all_eq_true.2 fun b hb=>by have:=hf b hb;simpa[bne]using this
   rw[this];simp
  | some i =>
   obtain⟨hi,hp,_⟩:=List.findIdx?_eq_some_iff_getElem.1 hf;have:Ei t.data.toList=false:=(by unfold Ei;rw[List.all_eq_false];exact⟨t.data.toList[i],List.getElem_mem hi,by simpa[bne]using hp⟩);rw[this];simp
 by_cases h0:t.size=0
 ·rw[if_pos (.inl h0),if_neg];simp[h0]
 ·cases hz:Ei t.data.toList with
  | true=>rw[if_neg (by rintro(h1|h1);exact h0 h1;rw[h.1 h1]at hz;cases hz),if_pos];simp;omega
  | false=>rw[if_pos (.inr (h.2 hz)),if_neg];simp
set_option maxRecDepth 20000 in
theorem YH(k:Int)(ex:Bool)(t:ByteArray)(ao:Option Addr)(nk cap:Nat)(w:World)(ht:t.size<=4194304)(hnk:nk<=4194304) :
 Calls Tryz.prog 228 #[.agg #[.int .i64 k,.bool ex,.string t,.slice ao nk cap]] w fun e w'=>e = .returned (LK k ex t nk)/\Below w.heap.size w w':=by
 have Vh:t.size<=4194304:=ht;have hbig:aj [t]<=4194319:=(by have:=gW t.size;simp only[aj];omega);have HTN:=yH (EX t);have HTL:=yH (show t.data.toList.take t.size=t.data.toList from List.take_of_length_le (by simp))
 go_enter Tryz.func228,Tryz.ntmps228
 go_wp2_with fail;obtain⟨w1,hw1⟩:∃W,w.alloc (.cells #[.int .i64 k,.bool ex,.string t,.slice ao nk cap] 26)=W:=⟨_,rfl⟩;rw[hw1];obtain⟨b1,x1⟩:=af hw1;have X1:=yH x1;have c0:=x1.cell 0;have c1:=x1.cell 1;have c2:=x1.cell 2;have c3:=x1.cell 3;clear hw1 x1
 go_wp2_with fail
 go_loopw [4,5] (fun tg i wr=>∃j:Nat,j<=t.size/\i = .int .i64 j/\tg = .bool (decide (0<t.size)&&Ei (t.data.toList.take j))/\Hid (w1=wr)) (fun _ i _=>t.size-(intOf i).toNat)
 case atStart=>exact⟨0,Nat.zero_le _,rfl,by simp[Ei],yH rfl⟩
 case round =>
  obtain⟨j,hj,rfl,rfl,hw⟩:=hrel;obtain rfl:=hw.out;have e0:(0:Int)<=(j:Int):=Int.natCast_nonneg _;by_cases hlt:j<t.size
  ·have e1:(j:Int)<(t.size:Int):=(by omega);have HT:=yH (KF.take_at t hlt);by_cases hp:t[j]=0
   ·have t1:((t[j].toNat:Int)==0)=true:=(by rw[hp];rfl);have HE:=yH (show(decide (0<t.size)&&Ei (t.data.toList.take (j+1)))=false by rw[HT.out];simp[Ei,hp]);clear hp;generalize (decide (0<t.size)&&Ei (t.data.toList.take j))=tg at *
    go_wp2_with fail
    go_roundw
    case rel=>exact⟨j+1,by omega,by go_num,by rw[HE.out],yH (by trivial)⟩
    case measure=>simp[intOf];omega
   ·have t1:((t[j].toNat:Int)==0)=false:=KF.jr (b:=0) hp;have HE:=yH (show(decide (0<t.size)&&Ei (t.data.toList.take (j+1)))=(decide (0<t.size)&&Ei (t.data.toList.take j)) by rw[HT.out];unfold Ei;rw[List.all_append];simp only[List.all_cons,List.all_nil,Bool.and_true];rw[bne_iff_ne.2 hp,Bool.and_true]);clear hp;obtain⟨tg,Zz⟩:∃tg,(decide (0<t.size)&&Ei (t.data.toList.take j))=tg:=⟨_,rfl⟩;rw[Zz]at HE ⊢;clear Zz
    go_wp2_with fail
    go_roundw
    case rel=>exact⟨j+1,by omega,by go_num,by rw[HE.out],yH (by trivial)⟩
    case measure=>simp[intOf];omega
  ·have hj2:t.size=j:=(by omega);subst hj2;rw[HTL.out];have HTE:=HTN;obtain⟨tg,Zz⟩:∃tg,(decide (0<t.size)&&Ei t.data.toList)=tg:=⟨_,rfl⟩;rw[Zz]at HTE ⊢;clear Zz hlt e0;by_cases k1:k=1
   ·subst k1;by_cases hn0:0<nk
    ·have HV:=yH (jK (c:=62) (show aG 1 ex t nk=62 by unfold aG;rw[if_pos rfl,if_pos hn0]) (by decide));have q1:((nk:Int) != 0)=true:=(by rw[bne_iff_ne];omega)
     go_wp2_with fail
     go_ret2;exact⟨by rw[HV.out];rfl,b1⟩
    ·obtain rfl:nk=0:=(by omega);have HF:=yH (show aG 1 ex t 0=0 by unfold aG;rw[if_pos rfl,if_neg (by omega)])
     go_wp2_with fail;refine ae fun w2 hw=>?_
     obtain⟨b2,x2⟩:=af hw;clear hw;refine(yB _ 6 [⟨#[40]⟩,⟨#[116,121,112,101]⟩,⟨#[114,101,103,117,108,97,114]⟩,⟨#[99,111,110,116,101,110,116,115]⟩,t,⟨#[41]⟩] w2 (fun j hj=>?_) (by simp) (fun s hs=>?_)).mono ?_
     ·match j,hj with
      | 0,_=>exact x2.cell 0
      | 1,_=>exact x2.cell 1
      | 2,_=>exact x2.cell 2
      | 3,_=>exact x2.cell 3
      | 4,_=>exact x2.cell 4
      | 5,_=>exact x2.cell 5
     ·simp only[List.mem_cons,List.not_mem_nil,or_false]at hs;rcases hs with rfl|rfl|rfl|rfl|rfl|rfl<;>first|exact Vh|decide
     rintro e w9 ⟨rfl,Qh⟩;subst Qh;have hA:aj [⟨#[40]⟩,⟨#[116,121,112,101]⟩,⟨#[114,101,103,117,108,97,114]⟩,⟨#[99,111,110,116,101,110,116,115]⟩,t,⟨#[41]⟩]<=25165914:=(by have h1:=bM [⟨#[40]⟩,⟨#[116,121,112,101]⟩,⟨#[114,101,103,117,108,97,114]⟩,⟨#[99,111,110,116,101,110,116,115]⟩,t,⟨#[41]⟩] 4194304 (fun s hs=>by simp only[List.mem_cons,List.not_mem_nil,or_false]at hs;rcases hs with rfl|rfl|rfl|rfl|rfl|rfl<;>first|exact Vh|decide);simpa using h1);have HA:=yH (show aj (IL 1 false t)=aj [⟨#[40]⟩,⟨#[116,121,112,101]⟩,⟨#[114,101,103,117,108,97,114]⟩,⟨#[99,111,110,116,101,110,116,115]⟩,t,⟨#[41]⟩] by unfold IL;simp[dR]);have HA2:=yH (show aj (IL 1 true t)=aj [⟨#[40]⟩,⟨#[116,121,112,101]⟩,⟨#[114,101,103,117,108,97,114]⟩,⟨#[99,111,110,116,101,110,116,115]⟩,t,⟨#[41]⟩]+aj [⟨#[101,120,101,99,117,116,97,98,108,101]⟩,⟨#[]⟩] by unfold IL;rw[if_pos rfl,if_pos rfl,dR]);generalize aj [⟨#[40]⟩,⟨#[116,121,112,101]⟩,⟨#[114,101,103,117,108,97,114]⟩,⟨#[99,111,110,116,101,110,116,115]⟩,t,⟨#[41]⟩]=A at *;have Vj:=b1.trans (b2.mono b1.size);have c1:=(X1.out.below b2).cell 1;cases ex with
     | false =>
      have HV:=yH (oD HF.out HA.out)
      go_wp2_with fail
      go_ret2;exact⟨by rw[HV.out];rfl,Vj⟩
     | true =>
      have HV:=yH (oD HF.out HA2.out)
      go_wp2_with fail;refine ae fun w3 hw=>?_
      obtain⟨b3,x3⟩:=af hw;clear hw;refine(yB _ 2 [⟨#[101,120,101,99,117,116,97,98,108,101]⟩,⟨#[]⟩] w3 (fun j hj=>?_) (by simp) (fun s hs=>?_)).mono ?_
      ·match j,hj with
       | 0,_=>exact x3.cell 0
       | 1,_=>exact x3.cell 1
      ·simp only[List.mem_cons,List.not_mem_nil,or_false]at hs;rcases hs with rfl|rfl<;>first|exact Vh|decide
      rintro e w9 ⟨rfl,Qh⟩;subst Qh;have hX:aj [⟨#[101,120,101,99,117,116,97,98,108,101]⟩,⟨#[]⟩]<=100:=(by decide);generalize aj [⟨#[101,120,101,99,117,116,97,98,108,101]⟩,⟨#[]⟩]=X at *
      go_wp2_with fail
      go_ret2;exact⟨by rw[HV.out];go_num,Vj.trans (b3.mono Vj.size)⟩
   have k1':(k==1)=false:=(by rw[beq_eq_false_iff_ne];exact k1);by_cases k2:k=2
   ·subst k2;by_cases hbad:ex=true∨0<nk
    ·have HV:=yH (jK (c:=62) (show aG 2 ex t nk=62 by unfold aG;rw[if_neg (by decide),if_pos rfl,if_pos hbad]) (by decide));cases ex with
     | true =>
      go_wp2_with fail
      go_ret2;exact⟨by rw[HV.out];rfl,b1⟩
     | false =>
      have q1:((nk:Int) != 0)=true:=(by rw[bne_iff_ne];rcases hbad with h|h<;>first|omega|cases h)
      go_wp2_with fail
      go_ret2;exact⟨by rw[HV.out];rfl,b1⟩
    ·obtain⟨rfl,rfl⟩:ex=false/\nk=0:=(by cases ex<;>simp at hbad ⊢;omega);have HF:=yH (show aG 2 false t 0=iQ t by unfold aG;rw[if_neg (by decide),if_pos rfl,if_neg hbad]);clear hbad;cases tg with
     | false =>
      have HV:=yH (jK (c:=63) (show aG 2 false t 0=63 by rw[HF.out,HTE.out];rfl) (by decide))
      go_wp2_with fail
      go_ret2;exact⟨by rw[HV.out];rfl,b1⟩
     | true =>
      have HV:=yH (oD (n:=aj [⟨#[40]⟩,⟨#[116,121,112,101]⟩,⟨#[115,121,109,108,105,110,107]⟩,⟨#[116,97,114,103,101,116]⟩,t,⟨#[41]⟩]) (show aG 2 false t 0=0 by rw[HF.out,HTE.out];rfl) (by rfl))
      go_wp2_with fail;refine ae fun w2 hw=>?_
      obtain⟨b2,x2⟩:=af hw;clear hw;refine(yB _ 6 [⟨#[40]⟩,⟨#[116,121,112,101]⟩,⟨#[115,121,109,108,105,110,107]⟩,⟨#[116,97,114,103,101,116]⟩,t,⟨#[41]⟩] w2 (fun j hj=>?_) (by simp) (fun s hs=>?_)).mono ?_
      ·match j,hj with
       | 0,_=>exact x2.cell 0
       | 1,_=>exact x2.cell 1
       | 2,_=>exact x2.cell 2
       | 3,_=>exact x2.cell 3
       | 4,_=>exact x2.cell 4
       | 5,_=>exact x2.cell 5
      ·simp only[List.mem_cons,List.not_mem_nil,or_false]at hs;rcases hs with rfl|rfl|rfl|rfl|rfl|rfl<;>first|exact Vh|decide
      rintro e w9 ⟨rfl,Qh⟩;subst Qh
      go_wp2_with fail
      go_ret2;exact⟨by rw[HV.out];rfl,b1.trans (b2.mono b1.size)⟩
   have k2':(k==2)=false:=(by rw[beq_eq_false_iff_ne];exact k2);by_cases k3:k=3
   ·subst k3;by_cases hbad:ex=true∨t.size≠0
    ·have HV:=yH (jK (c:=62) (show aG 3 ex t nk=62 by unfold aG;rw[if_neg (by decide),if_neg (by decide),if_pos rfl,if_pos hbad]) (by decide));cases ex with
     | true =>
      go_wp2_with fail
      go_ret2;exact⟨by rw[HV.out];rfl,b1⟩
     | false =>
      have q1:(t.toList == [])=false:=by
       rw[beq_eq_false_iff_ne];intro h;have h2:t.toList.length=t.size:=(by rw[ByteArray.toList_eq];simp);rw[h,List.length_nil]at h2;rcases hbad with hb|hb
       ·cases hb
       ·exact hb h2.symm
      go_wp2_with fail
      go_ret2;exact⟨by rw[HV.out];rfl,b1⟩
    ·obtain⟨rfl,ht0⟩:ex=false/\t.size=0:=(by cases ex<;>simp at hbad ⊢;exact hbad);have q1:(t.toList == [])=true:=(by rw[beq_iff_eq];have h2:t.toList.length=t.size:=(by rw[ByteArray.toList_eq];simp);exact List.eq_nil_of_length_eq_zero (by omega));have HV:=yH (oD (n:=aj [⟨#[40]⟩,⟨#[116,121,112,101]⟩,⟨#[100,105,114,101,99,116,111,114,121]⟩,⟨#[41]⟩]) (show aG 3 false t nk=0 by unfold aG;rw[if_neg (by decide),if_neg (by decide),if_pos rfl,if_neg hbad]) (by rfl));clear hbad
     go_wp2_with fail;refine ae fun w2 hw=>?_
     obtain⟨b2,x2⟩:=af hw;clear hw;refine(yB _ 4 [⟨#[40]⟩,⟨#[116,121,112,101]⟩,⟨#[100,105,114,101,99,116,111,114,121]⟩,⟨#[41]⟩] w2 (fun j hj=>?_) (by simp) (fun s hs=>?_)).mono ?_
     ·match j,hj with
      | 0,_=>exact x2.cell 0
      | 1,_=>exact x2.cell 1
      | 2,_=>exact x2.cell 2
      | 3,_=>exact x2.cell 3
     ·simp only[List.mem_cons,List.not_mem_nil,or_false]at hs;rcases hs with rfl|rfl|rfl|rfl<;>first|exact Vh|decide
     rintro e w9 ⟨rfl,Qh⟩;subst Qh
     go_wp2_with fail
     go_ret2;exact⟨by rw[HV.out];rfl,b1.trans (b2.mono b1.size)⟩
   ·have k3':(k != 3)=true:=(by rw[bne_iff_ne];exact k3);have HV:=yH (jK (c:=60) (show aG k ex t nk=60 by unfold aG;rw[if_neg k1,if_neg k2,if_neg k3]) (by decide))
    go_wp2_with fail
    go_ret2;exact⟨by rw[HV.out];rfl,b1⟩
end Gz

namespace Gz
open Go.RowKit Mem Tr lK jB jC Name
def gB(B:Nat)(w:World)(rv:Value)(r:R)(e:Ending)(w':World):Prop :=
 Kp (fun b=>rv.ownBlock=some b) w w'/\match r with
 | .ok m=>∃(rv':Value) (q:ByteArray) (nr:Nat) (xs:List Value),e = .returned (.agg #[rv',.int .i64 (m:Nat),.int .i64 0,.string q])/\m<=1048576/\nr<=m/\w'.ownsRow B 283 4 rv' nr xs/\∀g,rv'.ownBlock=some g->rv.ownBlock=some g∨w.heap.size<=g
 | .bad _ c=>∃(a:Option Addr) (n c':Nat) (m:Int) (q:ByteArray),e = .returned (.agg #[.slice a n c',.int .i64 m,.int .i64 c,.string q])/\c≠0
def zB(B:Nat)(w:World)(rv:Value)(r:R)(e:Ending)(w':World):Prop:=gB B w rv r e w'
theorem so{M:Nat->Prop}{w W:World}{P P2:Nat}{z:Array Value}{t:TypeId}(X:Bx W P2 z t)(K:Kp M w W)(h1:w.heap.size<=P)(h2:P2≠P)(j:Nat)(v:Value):Bx (W.setCell ⟨P,j,none⟩ v) P2 z t/\Kp M w (W.setCell ⟨P,j,none⟩ v) :=
 ⟨X.aH (p:=⟨P,j,none⟩) v h2,K.setCell ⟨P,j,none⟩ v (fun h=>absurd (show P<w.heap.size from h) (Nat.not_lt.2 h1))⟩
theorem Bd{M:Nat->Prop}{w W:World}{P2:Nat}{z:Array Value}{t:TypeId}(X:Bx W P2 z t)(K:Kp M w W)(h1:w.heap.size<=P2)(v0 v1 v2 v3:Value) :
 Bx ((((W.setCell ⟨P2,0,none⟩ v0).setCell ⟨P2,1,none⟩ v1).setCell ⟨P2,2,none⟩ v2).setCell ⟨P2,3,none⟩ v3) P2 ((((z.setIfInBounds 0 v0).setIfInBounds 1 v1).setIfInBounds 2 v2).setIfInBounds 3 v3) t/\Kp M w ((((W.setCell ⟨P2,0,none⟩ v0).setCell ⟨P2,1,none⟩ v1).setCell ⟨P2,2,none⟩ v2).setCell ⟨P2,3,none⟩ v3) :=
 ⟨(((X.set 0 v0).set 1 v1).set 2 v2).set 3 v3,(((K.setCell ⟨P2,0,none⟩ v0 (fun h=>absurd (show P2<w.heap.size from h) (Nat.not_lt.2 h1))).setCell ⟨P2,1,none⟩ v1 (fun h=>absurd (show P2<w.heap.size from h) (Nat.not_lt.2 h1))).setCell ⟨P2,2,none⟩ v2 (fun h=>absurd (show P2<w.heap.size from h) (Nat.not_lt.2 h1))).setCell ⟨P2,3,none⟩ v3 (fun h=>absurd (show P2<w.heap.size from h) (Nat.not_lt.2 h1))⟩
theorem zL{M:Nat->Prop}{w W WA:World}{P P2:Nat}{z z2:Array Value}{t t2:TypeId}{v0 v1 v2 v3:Value}(X:Bx W P z t)(X2:Bx W P2 z2 t2)(K:Kp M w W)(h1:w.heap.size<=P)(h2:P2≠P)(e:W.setCells P 0 (#[v0,v1,v2,v3]:Array Value).toList=WA) :
 Bx WA P ((((z.setIfInBounds 0 v0).setIfInBounds 1 v1).setIfInBounds 2 v2).setIfInBounds 3 v3) t/\Bx WA P2 z2 t2/\Kp M w WA:=by
 subst e;have q0:=so X2 K h1 h2 0 v0;have q1:=so q0.1 q0.2 h1 h2 1 v1;have q2:=so q1.1 q1.2 h1 h2 2 v2;have q3:=so q2.1 q2.2 h1 h2 3 v3;exact⟨(((X.set 0 v0).set 1 v1).set 2 v2).set 3 v3,q3⟩
theorem nD{w:World}{B k n:Nat}{t:TypeId}{v:Value}{xs:List Value}(h:w.ownsRow B t k v n xs):∃a c,v = .slice a n c:=by
 rcases h.2 with⟨h1,h0⟩|⟨g,cp,cur,h1,_⟩
 ·exact⟨none,0,by rw[h1,h0]⟩
 ·exact⟨_,_,h1⟩
def zC:Value:=.agg #[.string ⟨#[]⟩,.int .i64 0,.bool false,.string ⟨#[]⟩]
theorem GH:(Tryz.prog.info? 283).map (fun i=>(i.zero,i.size,i.bytes))=some (some zC,4,48):=by kernel_rfl
theorem GG(k:Int)(ex:Bool)(t:ByteArray)(ht:t.size<=4194304):1<=gG k ex t/\gG k ex t<=100000000:=by
 have h1:=gW t.size;have h2:∀m,1<=dQ m:=fun m=>by unfold dQ;omega
 have h3:∀l:List ByteArray,(∀s∈l,s.size<=4194304)->l.length<=8->aj l<=100000000:=fun l hl hn=>by
  have a:=bM l 4194304 hl;have b:=Nat.mul_le_mul_right (4194304+15) hn;omega
 unfold gG IL;constructor
 ·repeat' split
  all_goals simp only[List.cons_append,aj]
  all_goals have:=h2 (ByteArray.size ⟨#[40]⟩)
  all_goals omega
 ·refine h3 _ ?_ ?_
  ·intro s hs
   repeat' split at hs
   all_goals simp only[List.cons_append,List.nil_append,List.append_nil,List.mem_cons,List.not_mem_nil,or_false]at hs
   all_goals repeat' (first|(rcases hs with rfl|hs;(first|exact ht|decide))|(subst hs;first|exact ht|decide))
  ·repeat' split
   all_goals simp
theorem lT{w:World}{a b i j:Nat}(h:a≠b)(u:Value):(w.setCell ⟨b,j,none⟩ u).cell? ⟨a,i,none⟩=w.cell? ⟨a,i,none⟩:=World.cell?_setCells_out b [u] j w ⟨a,i,none⟩ (fun h1 _=>absurd h1 h)
theorem qy(nm:ByteArray)(h:nm.size<=4194304):dJ nm<=100000000:=by
 unfold dJ Ls;have h1:=gW nm.size;have h3:∀l:List ByteArray,(∀s∈l,s.size<=4194304)->l.length<=8->aj l<=100000000:=fun l hl hn=>by
  have a:=bM l 4194304 hl;have b:=Nat.mul_le_mul_right (4194304+15) hn;omega
 refine h3 _ (fun s hs=>?_) (by simp);simp only[List.mem_cons,List.not_mem_nil,or_false]at hs;rcases hs with rfl|rfl|rfl|rfl|rfl|rfl<;>first|exact h|decide
def Ky(B:Nat)(S:Nat->Prop)(N:Nat):Prop:=∀(k:Int) (ex:Bool) (t:ByteArray) (ks:Tr.Kids) (kv:Value) (path p0:ByteArray) (depth n nr:Nat) (rv:Value) (xs:List Value) (w:World),ks.bulk<N->ks.bulk<=4194304->t.size<=4194304->ay S w kv ks->(∀b,S b->b<w.heap.size/\rv.ownBlock≠some b) ->
 path.size<=depth*4194305->1<=depth->depth<=33->n<=1048576->nr<=n->w.ownsRow B 283 4 rv nr xs->B<=w.heap.size ->
 Calls Tryz.prog 207 #[.agg #[rv,.int .i64 (n:Nat),.int .i64 0,.string p0],.string path,.agg #[.int .i64 k,.bool ex,.string t,kv],.int .i64 (depth:Nat)] w (zB B w rv (au path depth k ex t ks n))
end Gz

namespace DSp
open Go.RowKit Mem Pre
theorem zV{a b:UInt8}(h:a=b):((a.toNat:Int)==(b.toNat:Int))=true:=by rw[h];simp
theorem jr{a b:UInt8}(h:a≠b):((a.toNat:Int)==(b.toNat:Int))=false:=by
 rw[beq_eq_false_iff_ne];intro e;exact h (UInt8.toNat_inj.1 (by omega))
def LM(c:UInt8)(l:List UInt8):Bool:=l.any (· == c)
theorem drop_at(s:ByteArray){k:Nat}(h:k<s.size):s.data.toList.drop k=s[k] :: s.data.toList.drop (k+1):=by
 rw[List.drop_eq_getElem_cons (by simpa using h)];rfl
theorem Vk(c:UInt8)(s:ByteArray)(w:World)(hs:s.size<=1099511627776) :
 Calls Tryz.prog 182 #[.int .u8 (c.toNat:Int),.string s] w fun e w'=>e = .returned (.bool (LM c s.data.toList))/\w=w':=by
 go_enter Tryz.func182,Tryz.ntmps182
 go_wp2
 go_loopw [5] (fun i wr=>∃k:Nat,k<=s.size/\i = .int .i64 k/\Hid (w=wr)/\Hid (LM c s.data.toList=LM c (s.data.toList.drop k))) (fun i _=>s.size-(intOf i).toNat)
 case atStart=>exact⟨0,Nat.zero_le _,rfl,yH rfl,yH rfl⟩
 case round =>
  obtain⟨k,hk,rfl,hw,hi⟩:=hrel;obtain rfl:=hw.out;have e0:(0:Int)<=(k:Int):=Int.natCast_nonneg _;by_cases hlt:k<s.size
  ·have e1:(k:Int)<(s.size:Int):=(by omega);have Hd:=yH (drop_at s hlt);by_cases hp:s[k]=c
   ·have t1:=zV hp;have HE:=yH (show LM c s.data.toList=true by rw[hi.out,Hd.out];simp[LM,hp]);clear hp
    go_wp2
    go_ret;exact⟨by rw[HE.out];rfl,rfl⟩
   ·have t1:=jr hp;have HE:=yH (show LM c s.data.toList=LM c (s.data.toList.drop (k+1)) by rw[hi.out,Hd.out];simp[LM,hp]);clear hp
    go_wp2
    go_roundw
    case rel=>exact⟨k+1,by omega,by go_num,yH (by trivial),HE⟩
    case measure=>simp[intOf];omega
  ·have hk2:s.size=k:=(by omega);have HE:=yH (show LM c s.data.toList=false by rw[hi.out,List.drop_eq_nil_of_le (by simp;omega)];rfl);have e1:((s.size:Nat):Int)=(k:Int):=(by omega)
   go_wp2
   go_ret;exact⟨by rw[HE.out];rfl,rfl⟩
def Qi:ByteArray:=⟨#[48,49,50,51,52,53,54,55,56,57,65,66,67,68,69,70,71,72,73,74,75,76,77,78,79,80,81,82,83,84,85,86,87,88,89,90,97,98,99,100,101,102,103,104,105,106,107,108,109,110,111,112,113,114,115,116,117,118,119,120,121,122,43,45,95,63,61,46]⟩
theorem Qj:((List.range 256).all fun n=>LM (UInt8.ofNat n) Qi.data.toList==lg n)=true:=by kernel_rfl
theorem Qk(c:UInt8):LM c Qi.data.toList=lg c.toNat:=by
 have h:=List.all_eq_true.1 Qj c.toNat (List.mem_range.2 c.toNat_lt);have h2:=eq_of_beq h;rwa[UInt8.ofNat_toNat]at h2
set_option maxRecDepth 20000 in
theorem EP(c:UInt8)(w:World):Calls Tryz.prog 206 #[.int .u8 (c.toNat:Int)] w fun e w'=>e = .returned (.int .i64 (dW.lX c))/\w=w':=by
 go_enter Tryz.func206,Tryz.ntmps206
 go_wp2
 go_loopw [3] (fun i wr=>∃k:Nat,k<=32/\i = .int .i64 k/\Hid (w=wr)/\Hid (∀j,j<k->dW.letters[j]?≠some c)) (fun i _=>32-(intOf i).toNat)
 case atStart=>exact⟨0,Nat.zero_le _,rfl,yH rfl,yH fun j hj=>by omega⟩
 case round =>
  obtain⟨k,hk,rfl,hw,hi⟩:=hrel;obtain rfl:=hw.out;have e0:(0:Int)<=(k:Int):=Int.natCast_nonneg _;by_cases hlt:k<32
  ·have e1:(k:Int)<32:=(by omega);have hl:k<dW.iW.size:=hlt;have hg:dW.letters[k]? = some dW.iW[k]:=(by have h:=List.getElem?_eq_getElem (l:=dW.iW.data.toList) (show k<dW.iW.data.toList.length from hl);exact h);by_cases hp:dW.iW[k]=c
   ·have t1:((((⟨#[48,49,50,51,52,53,54,55,56,57,97,98,99,100,102,103,104,105,106,107,108,109,110,112,113,114,115,118,119,120,121,122]⟩:ByteArray)[k]'hl).toNat:Int)==(c.toNat:Int))=true:=zV hp;have HE:=yH (show dW.lX c=(k:Int)from by
     unfold dW.lX yu.first
     have h:dW.letters.findIdx? (· == c)=some k:=by
      rw[List.findIdx?_eq_some_iff_getElem];refine⟨hl,beq_iff_eq.2 (by have h2:=hg;rw[List.getElem?_eq_getElem (show k<dW.letters.length from hl)]at h2;exact(Option.some.inj h2).trans hp),fun j hj=>?_⟩;have:=hi.out j hj;rw[List.getElem?_eq_getElem (show j<dW.letters.length from Nat.lt_trans hj hl)]at this
      simpa using this
     rw[h])
    clear hp
    go_wp2
    go_ret;exact⟨by rw[HE.out];rfl,rfl⟩
   ·have t1:((((⟨#[48,49,50,51,52,53,54,55,56,57,97,98,99,100,102,103,104,105,106,107,108,109,110,112,113,114,115,118,119,120,121,122]⟩:ByteArray)[k]'hl).toNat:Int)==(c.toNat:Int))=false:=jr hp;have HE:=yH (show ∀j,j<k+1->dW.letters[j]?≠some c from fun j hj=>by
     by_cases h:j=k
     ·subst h;rw[hg];intro e;exact hp (Option.some.inj e)
     ·exact hi.out j (by omega))
    clear hp
    go_wp2
    go_roundw
    case rel=>exact⟨k+1,by omega,by go_num,yH (by trivial),HE⟩
    case measure=>simp[intOf];omega
  ·have hk2:32=k:=(by omega);subst hk2;have HE:=yH (show dW.lX c = -1 from by
    unfold dW.lX yu.first
    have h:dW.letters.findIdx? (· == c)=none:=by
     rw[List.findIdx?_eq_none_iff];intro x hx;obtain⟨j,hj,rfl⟩:=List.getElem_of_mem hx;have:=hi.out j hj;rw[List.getElem?_eq_getElem hj]at this
     simpa using this
    rw[h])
   go_wp2
   go_ret;exact⟨by rw[HE.out];rfl,rfl⟩
set_option maxRecDepth 20000 in
theorem Lh(s:ByteArray)(w:World) :
 Calls Tryz.prog 174 #[.string s] w fun e w'=>e = .returned (.int .i64 (dP s))/\w=w':=by
 by_cases hs:s.size=32
 ·have hsi:((s.size:Nat):Int)=32:=(by omega);have HV:=yH (show dP s=if dW.aU s.data.toList=true then 0 else 131 by unfold dP pK;rw[decide_eq_true hs];simp)
  go_enter Tryz.func174,Tryz.ntmps174
  go_wp2_with fail
  go_loopw [3] (fun i wr=>∃k:Nat,k<=32/\i = .int .i64 k/\Hid (w=wr)/\Hid (dW.aU s.data.toList=dW.aU (s.data.toList.drop k))) (fun i _=>32-(intOf i).toNat)
  case atStart=>exact⟨0,Nat.zero_le _,rfl,yH rfl,yH rfl⟩
  case round =>
   obtain⟨k,hk,rfl,hw,hi⟩:=hrel;obtain rfl:=hw.out;have e0:(0:Int)<=(k:Int):=Int.natCast_nonneg _;by_cases hlt:k<32
   ·have e1:(k:Int)<32:=(by omega);have hlt2:k<s.size:=(by omega);have e2:(k:Int)<(s.size:Int):=(by omega);have Hd:=yH (drop_at s hlt2)
    go_wp2_with fail;refine(EP s[k] w).mono ?_;rintro e w1 ⟨rfl,hw1⟩;subst hw1;have hz:=dW.GK s[k];by_cases hv:0<=dW.lX s[k]
    ·have HE:=yH (show dW.aU s.data.toList=dW.aU (s.data.toList.drop (k+1)) by rw[hi.out,Hd.out];simp[dW.aU,hv]);generalize dW.lX s[k]=z at *
     go_wp2_with fail
     go_roundw
     case rel=>exact⟨k+1,by omega,by go_num,yH (by trivial),HE⟩
     case measure=>simp[intOf];omega
    ·have HE:=yH (show dW.aU s.data.toList=false by rw[hi.out,Hd.out];simp only[dW.aU,List.all_cons];rw[decide_eq_false hv];rfl);have hv2:dW.lX s[k]<0:=(by omega);clear hv;generalize dW.lX s[k]=z at *
     go_wp2_with fail
     go_ret;exact⟨by rw[HV.out,HE.out];rfl,rfl⟩
   ·have hk2:32=k:=(by omega);subst hk2;have HE:=yH (show dW.aU s.data.toList=true by rw[hi.out,List.drop_eq_nil_of_le (by simp;omega)];rfl)
    go_wp2_with fail
    go_ret;exact⟨by rw[HV.out,HE.out];rfl,rfl⟩
 ·have hsi:(((s.size:Nat):Int) != 32)=true:=(by rw[bne_iff_ne];omega);have HV:=yH (show dP s=131 by unfold dP pK;rw[decide_eq_false hs];rfl)
  go_enter Tryz.func174,Tryz.ntmps174
  go_wp2_with fail
  go_ret;exact⟨by rw[HV.out];rfl,rfl⟩
def qJ(s:ByteArray)(k:Nat):Bool:=((s.data.toList.take k).all fun b=>lg b.toNat) && !(decide (0<k)&&decide (s.data.toList[0]? = some 46))
theorem IP(s:ByteArray):qJ s 0=true:=by simp[qJ]
theorem yC(s:ByteArray){k:Nat}(h:k<s.size):qJ s (k+1)=(qJ s k&&lg s[k].toNat && !(decide (k=0)&&decide (s[k]=46))):=by
 have hl:k<s.data.toList.length:=(by simpa using h);have hs:s.data.toList[k]=s[k]:=rfl;unfold qJ;rw[List.take_succ_eq_append_getElem hl,List.all_append,hs];simp only[List.all_cons,List.all_nil,Bool.and_true];cases k with
 | zero =>
  rw[List.getElem?_eq_getElem hl,hs];simp
 | succ k =>
  simp;cases (s.data.toList.take (k+1)).all fun b=>lg b.toNat<;>cases lg s[k+1].toNat<;>simp
theorem Ql(s:ByteArray)(h1:1<=s.size)(h2:s.size<=211):nH s.data.toList=qJ s s.size:=by
 have hl:s.data.toList.length=s.size:=(by simp);unfold nH qJ;rw[List.take_of_length_le (by omega),hl];have h3:0<s.size:=(by omega);rw[decide_eq_true h3,Bool.true_and,Bool.and_comm];congr 1;by_cases h:s.data.toList[0]? = some 46
 ·rw[decide_eq_true h,decide_eq_false (fun hh=>hh.2.2 h)];rfl
 ·rw[decide_eq_false h,decide_eq_true ⟨h1,h2,h⟩];rfl
theorem IQ(s:ByteArray){k:Nat}(hk:k<=s.size)(h:qJ s k=false):∀d,k+d<=s.size->qJ s (k+d)=false:=by
 intro d
 induction d with
 | zero=>intro _;exact h
 | succ d ih =>
  intro hd;rw[←Nat.add_assoc,yC s (by omega),ih (by omega)];rfl
set_option maxRecDepth 20000 in
theorem rY(s:ByteArray)(w:World)(hs:s.size<=1099511627776) :
 Calls Tryz.prog 142 #[.string s] w fun e w'=>e = .returned (.int .i64 (cZ s))/\w=w':=by
 by_cases h1:s.size=0
 ·have e1:(s.size:Int)<1:=(by omega);have HV:=yH (show cZ s=130 by unfold cZ nH;rw[decide_eq_false (by simp;omega)];rfl)
  go_enter Tryz.func142,Tryz.ntmps142
  go_wp2_with fail
  go_ret;exact⟨by rw[HV.out];rfl,rfl⟩
 by_cases h2:211<s.size
 ·have e1:¬(s.size:Int)<1:=(by omega);have e2:(211:Int)<(s.size:Int):=(by omega);have HV:=yH (show cZ s=130 by unfold cZ nH;rw[decide_eq_false (by simp;omega)];rfl)
  go_enter Tryz.func142,Tryz.ntmps142
  go_wp2_with fail
  go_ret;exact⟨by rw[HV.out];rfl,rfl⟩
 have e1:¬(s.size:Int)<1:=(by omega);have e2:¬(211:Int)<(s.size:Int):=(by omega);have HV:=yH (show cZ s=if qJ s s.size=true then 0 else 130 by unfold cZ;rw[Ql s (by omega) (by omega)])
 go_enter Tryz.func142,Tryz.ntmps142
 go_wp2_with fail
 go_loopw [3,4] (fun i _ wr=>∃k:Nat,k<=s.size/\i = .int .i64 k/\Hid (w=wr)/\Hid (qJ s k=true)) (fun i _ _=>s.size-(intOf i).toNat)
 case atStart=>exact⟨0,Nat.zero_le _,rfl,yH rfl,yH (IP s)⟩
 case round =>
  obtain⟨k,hk,rfl,hw,hi⟩:=hrel;obtain rfl:=hw.out;have e0:(0:Int)<=(k:Int):=Int.natCast_nonneg _;by_cases hlt:k<s.size
  ·have e3:(k:Int)<(s.size:Int):=(by omega);have HS:=yH (yC s hlt);have HBAD:=yH (show qJ s (k+1)=false->cZ s=130 from fun h=>by
    have h4:=IQ s (k:=k+1) (by omega) h (s.size-(k+1)) (by omega);rw[show k+1+(s.size-(k+1))=s.size by omega]at h4;rw[HV.out,h4];rfl)
   go_wp2_with fail;refine(Vk s[k] Qi w (by simp[Qi,ByteArray.size])).mono ?_;rintro e w1 ⟨rfl,hw1⟩;subst hw1;rw[Qk];cases hL:lg s[k].toNat with
   | false =>
    have HE:=yH (HBAD.out (by rw[HS.out,hL];simp))
    go_wp2_with fail
    go_ret;exact⟨by rw[HE.out];rfl,rfl⟩
   | true =>
    by_cases h0:k=0
    ·subst h0;by_cases hp:s[0]=46
     ·have t1:((s[0].toNat:Int)==46)=true:=(by rw[hp];rfl);have HE:=yH (HBAD.out (by rw[HS.out,hp];simp));clear hp
      go_wp2_with fail
      go_ret;exact⟨by rw[HE.out];rfl,rfl⟩
     ·have t1:((s[0].toNat:Int)==46)=false:=jr (b:=46) hp;have HE:=yH (show qJ s (0+1)=true by rw[HS.out,hi.out,hL,decide_eq_false hp];rfl);clear hp
      go_wp2_with fail
      go_roundw
      case rel=>exact⟨0+1,by omega,by go_num,yH (by trivial),HE⟩
      case measure=>simp[intOf];omega
    ·have t1:((k:Int)==0)=false:=(by rw[beq_eq_false_iff_ne];omega);have HE:=yH (show qJ s (k+1)=true by rw[HS.out,hi.out,hL,decide_eq_false h0];rfl)
     go_wp2_with fail
     go_roundw
     case rel=>exact⟨k+1,by omega,by go_num,yH (by trivial),HE⟩
     case measure=>simp[intOf];omega
  ·have hk2:s.size=k:=(by omega);have HE:=yH (show cZ s=0 by rw[HV.out,hk2,hi.out];rfl);have e4:((s.size:Nat):Int)=(k:Int):=(by omega)
   go_wp2_with fail
   go_ret;exact⟨by rw[HE.out];rfl,rfl⟩
theorem sD(s:ByteArray):(fZ s).size=s.size-13:=by unfold fZ;simp
theorem Qm(s:ByteArray)(h:46<=s.size):(fZ s).data.toList[32]? = some s[45]:=by
 unfold fZ;rw[Lib.extract_data,List.getElem?_take,if_pos (by omega),List.getElem?_drop];exact List.getElem?_eq_getElem (l:=s.data.toList) (i:=13+32) (by simp;omega)
theorem Qn(s:ByteArray)(h:46<=s.size):mW s=s.extract 13 45:=by
 unfold mW fZ;rw[ByteArray.extract_extract];congr 1;omega
theorem Vl(s:ByteArray)(h:46<=s.size):xP s=s.extract 46 s.size:=by
 unfold xP fZ;rw[ByteArray.extract_extract];congr 1;simp;omega
theorem Vm(s:ByteArray)(h:46<=s.size):gu s bz=((s.extract 0 13).toList==bz.toList):=by
 unfold gu;rw[ByteArray.toList_eq,ByteArray.toList_eq,Lib.extract_data];rw[Bool.eq_iff_iff,decide_eq_true_eq,beq_iff_eq];rfl
set_option maxRecDepth 20000 in
theorem vV(s:ByteArray)(w:World)(hs:s.size<=1099511627776) :
 Calls Tryz.prog 138 #[.string s] w fun e w'=>e = .returned (dY s)/\w=w':=by
 by_cases h1:s.size<46
 ·have HV:=yH (fG (s:=s) (by unfold eU;rw[decide_eq_false (p:=32<(fZ s).size) (by rw[sD];omega)];simp));have e1:(s.size:Int)<46:=(by omega)
  go_enter Tryz.func138,Tryz.ntmps138
  go_wp2_with fail
  go_ret3
  exact⟨by rw[HV.out];rfl,rfl⟩
 have h1':46<=s.size:=(by omega);have ZA:=yH (Vm s h1');have e1:¬(s.size:Int)<46:=(by omega);have e2:(13:Int)<=(s.size:Int):=(by omega);have e3:(45:Int)<(s.size:Int):=(by omega);have e4:(45:Int)<=(s.size:Int):=(by omega);have e5:(46:Int)<=(s.size:Int):=(by omega);have HR:=yH (Qm s h1');cases hh:gu s bz with
 | false =>
  have HV:=yH (fG (s:=s) (by unfold eU;rw[hh];rfl));have t1:((s.extract 0 13).toList == [47,100,101,112,111,116,47,115,116,111,114,101,47])=false:=(by have:=ZA.out;rw[hh,ByteArray.toList_eq bz]at this;exact this.symm)
  go_enter Tryz.func138,Tryz.ntmps138
  go_wp2_with fail
  go_ret3
  exact⟨by rw[HV.out];rfl,rfl⟩
 | true =>
  have t1:((s.extract 0 13).toList == [47,100,101,112,111,116,47,115,116,111,114,101,47])=true:=(by have:=ZA.out;rw[hh,ByteArray.toList_eq bz]at this;exact this.symm);by_cases hp:s[45]=45
  ·have t2:((s[45].toNat:Int) != 45)=false:=(by rw[hp];rfl);have HS:=yH (show eU s=true by unfold eU;rw[hh,HR.out,hp,decide_eq_true (p:=32<(fZ s).size) (by rw[sD];omega)];rfl);have HH:=yH (Qn s h1');have HL:=yH (Vl s h1');have hls:(s.extract 46 s.size).size<=1099511627776:=(by simp;omega);clear hp
   go_enter Tryz.func138,Tryz.ntmps138
   go_wp2_with fail;obtain⟨H,hH⟩:∃H,s.extract 13 45=H:=⟨_,rfl⟩;obtain⟨L,hL⟩:∃L,s.extract 46 s.size=L:=⟨_,rfl⟩;rw[hL]at hls;rw[hH,hL];have Tv:=yH (HH.out.trans hH);have HL2:=yH (HL.out.trans hL);clear hH hL;refine(Lh H w).mono ?_;rintro e w1 ⟨rfl,hw1⟩;subst hw1;by_cases hz:dP H=0
   ·rw[hz]
    go_wp2_with fail;refine(rY L w hls).mono ?_;rintro e w1 ⟨rfl,hw1⟩;subst hw1;by_cases hy:cZ L=0
    ·have HV:=yH (show dY s = .tuple #[.string H,.string L,.int .i64 0] by
      have hE:aF s=0:=(by unfold aF;rw[if_pos HS.out,Tv.out,HL2.out,if_pos hz,hy]);unfold dY;rw[if_pos hE,Tv.out,HL2.out])
     rw[hy]
     go_wp2_with fail
     go_ret3
     exact⟨by rw[HV.out];rfl,rfl⟩
    ·have HV:=yH (show dY s = .tuple #[.string ⟨#[]⟩,.string ⟨#[]⟩,.int .i64 (cZ L)] by
      have hE:aF s=cZ L:=(by unfold aF;rw[if_pos HS.out,Tv.out,HL2.out,if_pos hz]);unfold dY;rw[hE,if_neg hy])
     have t3:(cZ L != 0)=true:=(by rw[bne_iff_ne];exact hy);generalize cZ L=y at *;clear hy
     go_wp2_with fail
     go_ret3
     exact⟨by rw[HV.out];rfl,rfl⟩
   ·have HV:=yH (show dY s = .tuple #[.string ⟨#[]⟩,.string ⟨#[]⟩,.int .i64 (dP H)] by
     have hE:aF s=dP H:=(by unfold aF;rw[if_pos HS.out,Tv.out,HL2.out,if_neg hz]);unfold dY;rw[hE,if_neg hz])
    have t3:(dP H != 0)=true:=(by rw[bne_iff_ne];exact hz);have t4:(dP H==0)=false:=(by rw[beq_eq_false_iff_ne];exact hz);generalize dP H=y at *;clear hz
    go_wp2_with fail
    go_ret3
    exact⟨by rw[HV.out];rfl,rfl⟩
  ·have t2:((s[45].toNat:Int) != 45)=true:=(by rw[bne_iff_ne];have:=jr (b:=45) hp;rw[beq_eq_false_iff_ne]at this;exact this);have HV:=yH (fG (s:=s) (by unfold eU;rw[HR.out,decide_eq_false (fun e=>hp (Option.some.inj e))];simp));clear hp
   go_enter Tryz.func138,Tryz.ntmps138
   go_wp2_with fail
   go_ret3
   exact⟨by rw[HV.out];rfl,rfl⟩
theorem ZB(s:ByteArray)(w:World)(hs:s.size<=1099511627776) :
 Calls Tryz.prog 175 #[.string s] w fun e w'=>e = .returned (.bool (decide (aF s=0)))/\w=w':=by
 have hC:=vV s w hs;obtain⟨A,B,hT⟩:=jv s;rw[hT]at hC;clear hT
 go_enter Tryz.func175,Tryz.ntmps175
 go_wp2_with fail;refine hC.mono ?_;rintro e w1 ⟨rfl,hw1⟩;subst hw1;obtain⟨D,hD⟩:∃D,decide (aF s=0)=D:=⟨_,rfl⟩;have t3:(aF s==0)=D:=(by rw[←hD];exact(Bool.eq_iff_iff.2 (by rw[beq_iff_eq,decide_eq_true_eq])));have HD:=yH (show ∀z:Int,z=aF s->decide (z=0)=D from fun z h=>by rw[h];exact hD);obtain⟨y,hy⟩:∃y,aF s=y:=⟨_,rfl⟩;have HY:=yH hy;rw[hy]at t3 ⊢;clear hD hy
 go_wp2_with fail
 go_ret;exact⟨by rw[HD.out _ rfl];rfl,rfl⟩
theorem IU{s:ByteArray}(h:aF s=0):46<=s.size:=by
 have h1:eU s=true:=by
  cases hS:eU s with
  | true=>rfl
  | false =>
   unfold aF at h;rw[hS,if_neg (by simp)]at h;omega
 unfold eU at h1;simp only[Bool.and_eq_true,decide_eq_true_eq]at h1;have:=h1.1.2;rw[sD]at this;omega
set_option maxRecDepth 20000 in
theorem yD(v:Value)(l:List ByteArray)(w:World)(hr:Texts.Reads w v l)(hsz:∀s∈l,s.size<=1099511627776) :
 Calls Tryz.prog 139 #[v] w fun e w'=>e = .returned (.int .i64 (bZ l))/\w=w':=by
 rcases hr with⟨ao,cap,rfl,rfl⟩|⟨b,off,cap,rfl,hm,hc⟩
 ·have HE:=yH (show bZ []=0 by rfl)
  go_enter Tryz.func139,Tryz.ntmps139
  go_wp2_with fail
  go_loopw [3,4] (fun _ i wr=>i = .int .i64 0/\Hid (w=wr)) (fun _ _ _=>0)
  case atStart=>exact⟨rfl,yH rfl⟩
  case round =>
   obtain⟨rfl,hw⟩:=hrel;obtain rfl:=hw.out
   go_wp2_with fail
   go_ret;exact⟨by rw[HE.out];rfl,rfl⟩
 by_cases hbig:1024<l.length
 ·have HE:=yH (show bZ l=171 by unfold bZ;rw[if_pos hbig]);have h1:(1024:Int)<l.length:=(by omega);clear hc hm
  go_enter Tryz.func139,Tryz.ntmps139
  go_wp2_with fail
  go_ret;exact⟨by rw[HE.out];rfl,rfl⟩
 have HB:=yH hbig;obtain⟨n,hn⟩:∃n,l.length=n:=⟨_,rfl⟩;have HC:=yH hc;have HS:=yH hsz;rw[hn]at hbig ⊢;have h1:(n:Int)<=1024:=(by omega);have Hn:=yH hn;clear hn hc hm hsz
 go_enter Tryz.func139,Tryz.ntmps139
 go_wp2_with fail
 go_loopw [3,4] (fun last i wr=>∃k:Nat,k<=n/\i = .int .i64 k/\Hid (w=wr)/\(∃t,last = .string t/\Hid (t=match k with|0=>⟨#[]⟩|j+1=>(l[j]?).getD ⟨#[]⟩))/\Hid (∀j,j<k->dS l j=false)) (fun _ i _=>n-(intOf i).toNat)
 case atStart=>exact⟨0,Nat.zero_le _,rfl,yH rfl,⟨_,rfl,yH rfl⟩,yH fun j hj=>by omega⟩
 case round =>
  obtain⟨k,hk,rfl,hw,⟨t,rfl,ht⟩,hi⟩:=hrel;obtain rfl:=hw.out;have e0:(0:Int)<=(k:Int):=Int.natCast_nonneg _;by_cases hlt:k<n
  ·have e1:(k:Int)<(n:Int):=(by omega);have hkl:k<l.length:=(by rw[Hn.out];exact hlt);have hcell:=HC.out k hkl;have hsz:=HS.out l[k] (List.getElem_mem hkl);obtain⟨p,hp⟩:∃p,l[k]=p:=⟨_,rfl⟩;rw[hp]at hcell hsz;have HP:=yH (show l[k]? = some p by rw[List.getElem?_eq_getElem hkl,hp]);have HBAD:=yH (show dS l k=true->bZ l=133 from fun h=>oH HB.out k hkl h);clear hkl hp
   go_wp2_with fail;refine(ZB p w hsz).mono ?_;rintro e w1 ⟨rfl,hw1⟩;subst hw1;by_cases hz:aF p=0
   ·have HZ:=yH hz;rw[decide_eq_true hz];have Be:=yH (show jO l k p=(Op.bytesLess p.toList t.toList||p.toList==t.toList) by
     have h:=ht.out;cases k with
     | zero =>
      have h4:p.toList.length=p.size:=(by rw[ByteArray.toList_eq];simp);have h3:=IU HZ.out;rw[show t=⟨#[]⟩from h];obtain⟨a,r,e⟩:∃a r,p.toList=a :: r:=by
       cases hp:p.toList with
       | nil=>rw[hp]at h4;simp at h4;omega
       | cons a r=>exact⟨a,r,rfl⟩
      rw[e,show(⟨#[]⟩:ByteArray).toList = []from by rw[ByteArray.toList_eq]];rfl
     | succ j =>
      have hj:j<l.length:=(by have:=Hn.out;omega);simp only[List.getElem?_eq_getElem hj,Option.getD_some]at h;unfold jO;simp only[List.getElem?_eq_getElem hj];rw[h])
    cases hB:(Op.bytesLess p.toList t.toList||p.toList==t.toList)with
    | true =>
     have HE:=yH (HBAD.out (by unfold dS;rw[HP.out];show(decide (aF p≠0)||jO l k p)=true;rw[Be.out,hB,Bool.or_true]))
     go_wp2_with fail
     go_ret;exact⟨by rw[HE.out];rfl,rfl⟩
    | false =>
     have HE:=yH (show ∀j,j<k+1->dS l j=false from fun j hj=>by
      by_cases h:j=k
      ·subst h;unfold dS;rw[HP.out];show(decide (aF p≠0)||jO l j p)=false;rw[Be.out,hB,HZ.out];rfl
      ·exact hi.out j (by omega))
     go_wp2_with fail
     go_roundw
     case rel=>exact⟨k+1,by omega,by go_num,yH (by trivial),⟨_,rfl,yH (by show p=(l[k]?).getD ⟨#[]⟩;rw[HP.out];rfl)⟩,HE⟩
     case measure=>simp[intOf];omega
   ·rw[decide_eq_false hz];have HE:=yH (HBAD.out (by unfold dS;rw[HP.out];simp[hz]))
    go_wp2_with fail
    go_ret;exact⟨by rw[HE.out];rfl,rfl⟩
  ·have hk2:n=k:=(by omega);have e4:((n:Nat):Int)=(k:Int):=(by omega);have HE:=yH (show bZ l=0 by
    unfold bZ;rw[if_neg HB.out,if_pos];exact List.all_eq_true.mpr fun j hj=>by rw[hi.out j (by have:=List.mem_range.mp hj;have:=Hn.out;omega)];rfl)
   go_wp2_with fail
   go_ret;exact⟨by rw[HE.out];rfl,rfl⟩
end DSp
end Go.Proofs.YtmmmghpimdfleaaGreatDoor
