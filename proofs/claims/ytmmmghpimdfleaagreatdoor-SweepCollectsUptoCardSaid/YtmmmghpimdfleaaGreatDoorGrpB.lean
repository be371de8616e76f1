/-
  La.Value, UY at thirty-two letters, UZ, Fold.
  La.UZ at twenty bytes, Fold of thirty-two bytes into twenty.
  La.Fold of thirty-two bytes into twenty.
  strings.CutPrefix and its lower functions; strings.ContainsRune at an ASCII letter; the checks of paths.
  yw.EO.
  yw.IG, Parse.
-/
import Derived.Test.YtmmmghpimdfleaaGreatDoorTk
import Derived.Test.YtmmmghpimdfleaaGreatDoorGrpA
import Derived.WalkLawsBesides
import Derived.WalkSpells
import Derived.Maps.AppendAt
import Derived.Deep.RegionHeld3
import Derived.RangeFuncBox
import Derived.Laws.RangeAny
import Derived.Laws.RangeString
import Derived.Lib.OthersKept
set_option linter.unusedVariables false
set_option maxHeartbeats 4000000
namespace Go.Proofs.YtmmmghpimdfleaaGreatDoor
namespace dW
open Go.RowKit Mem
def iW:ByteArray:=⟨#[48,49,50,51,52,53,54,55,56,57,97,98,99,100,102,103,104,105,106,107,108,109,110,112,113,114,115,118,119,120,121,122]⟩
def letters:List UInt8:=[48,49,50,51,52,53,54,55,56,57,97,98,99,100,102,103,104,105,106,107,108,109,110,112,113,114,115,118,119,120,121,122]
def lX(c:UInt8):Int:=yu.first letters c
theorem GK(c:UInt8):-1<=lX c/\lX c<32:=yu.BO letters c
theorem EP(c:UInt8)(w:World):Calls Tryz.prog 162 #[.int .u8 (c.toNat:Int)] w fun e w'=>e = .returned (.int .i64 (lX c))/\w=w':=by
 go_enter Tryz.func162,Tryz.ntmps162
 go_wp2_with fail;refine(yu.strings_IndexByte iW (c.toNat:Int) _).mono ?_;rintro e w' ⟨rfl,rfl⟩;have hx:firstIdx iW ((c.toNat:Int)).toNat.toUInt8=lX c:=by
  rw[yu.firstIdx_eq];simp[lX,letters,iW]
 rw[hx]
 go_wp2_with fail
 go_ret;exact⟨rfl,rfl⟩
theorem infoByte:(Tryz.prog.info? 5).map (fun i=>(i.zero,i.size,i.bytes))=some (some (.int .u8 0),1,1):=by kernel_rfl
theorem Lc{A u H A2:Nat}(hA:A<2 ^ H)(hu:u<32)(hH:H<8)(h:A+u*2 ^ H=A2):bits BinOp.or IntKind.u64 (A:Int) (IntKind.u64.wrap ((u:Int)*2 ^ H))=(A2:Int):=by
 have hp:2 ^ H<=2 ^ 7:=Nat.pow_le_pow_right (by decide) (by omega);have hm:u*2 ^ H<=32*2 ^ H:=Nat.mul_le_mul_right _ (by omega);have e:IntKind.u64.wrap ((u:Int)*2 ^ H)=((u*2 ^ H:Nat):Int):=(by have:((u:Int)*2 ^ H)=((u*2 ^ H:Nat):Int):=(by simp);rw[this,IntKind.wrap_u64];omega);rw[e,u64_or_nat A (u*2 ^ H) (by omega) (by omega)];have:=Nat.two_pow_add_eq_or_of_lt hA u;rw[Nat.or_comm,Nat.mul_comm u,←this,←h,Nat.mul_comm u];omega
/-- are all of them Ze -/
def aU(l:List UInt8):Bool:=l.all fun c=>decide (0<=lX c)
def qE(l:List UInt8):Int:=if aU l=true then 0 else 20
def PostF(w:World)(s:ByteArray)(e:Ending)(w':World):Prop:=∃X:ByteArray,e = .returned (.tuple #[.string X,.int .i64 (qE s.data.toList)])/\Below w.heap.size w w'
set_option maxRecDepth 100000 in
theorem Zf(s:ByteArray)(hs:s.size=32)(w:World):Calls Tryz.prog 126 #[.string s] w (PostF w s):=by
 obtain⟨i0,hi,hz0,hz1,hz2⟩:=info_parts infoByte;have hsi:((s.size:Nat):Int)=32:=(by omega);have HS:=yH hs;clear hs
 go_enter Tryz.func126,Tryz.ntmps126;have hmk:∀w,(Instr.makeSlice 108 (.int .i64 0) (.int .i64 20)).run Tryz.prog w = .ok (.slice (some ⟨w.heap.size,0,none⟩) 0 20) (w.alloc (.cells (Array.replicate 20 (.int .u8 0)) 5)):=fun _=>by kernel_rfl
 have hown:=World.ownsRow_made (base:=w.heap.size) (e:=5) (size:=1) w (Array.replicate 20 (.int .u8 0)) 20 (Nat.le_refl _) (by unfold maxLen;omega) (by simp);have HO:=yH hown;clear hown
 go_wp2_with fail
 go_loopw [6,7,8,5,9] (fun a h i o _ wr=>∃(n A H:Nat) (L:List UInt8) (ao:Option Addr) (cap:Nat),o = .slice ao L.length cap/\n<=32/\i = .int .i64 ((n:Int)-1)/\a = .int .u64 (A:Int)/\h = .int .u64 (H:Int)/\H<8/\Hid (A<2 ^ H)/\5*n+H+8*L.length=160/\wr.ownsRow w.heap.size 5 1 (.slice ao L.length cap) L.length (Lib.byteCells L)/\Below w.heap.size w wr/\Hid (aU (s.data.toList.drop n)=true)) (fun _ _ i _ _ _=>(intOf i+1).toNat)
 case atStart=>exact⟨32,0,0,[],_,_,rfl,Nat.le_refl _,rfl,rfl,rfl,by omega,yH (by decide),by simp,HO.out,(Below.refl _ _).alloc (Nat.le_refl _) _,yH (by rw[List.drop_eq_nil_of_le (by have:=HS.out;simp;omega)];rfl)⟩
 case round =>
  obtain⟨n,A,H,L,ao,cap,rfl,hn,rfl,rfl,rfl,hH,hA,heq,hown,hb,hall⟩:=hrel

  cases n with
  | zero =>
   have e0:((0:Nat):Int)-1 = -1:=(by omega);rw[e0];have hL:L.length=20:=(by omega);have hH0:H=0:=(by omega);subst hH0;have hA0:A=0:=(by have:=hA.out;simp at this;omega);subst hA0;have hall0:aU s.data.toList=true:=(by have:=hall.out;rwa[List.drop_zero]at this);have hfe:qE s.data.toList=0:=(by unfold qE;rw[if_pos hall0]);have HFE:=yH hfe;have hcv:=Lb.kY (P:=Tryz.prog) Tryz.underlying108 Tryz.underlying5 Tryz.underlying9 rfl hown;clear hL heq e0 hall0 hfe hsi hmk
   go_wp2_with fail
   go_ret2;exact⟨_,by rw[HFE.out];rfl,hb⟩
  | succ k =>
   have hk:k<s.size:=(by have:=HS.out;omega);have ek:((k+1:Nat):Int)-1=(k:Int):=(by omega);rw[ek];have Zg:=yH heq;clear ek heq
   go_wp2_with fail;refine(EP s[k] _).mono ?_;rintro e w' ⟨rfl,rfl⟩;have hv:=GK s[k];generalize hvv:lX s[k]=v at *;have HV:=yH hvv;clear hvv;by_cases hneg:v<0
   ·have hfe:qE s.data.toList=20:=by
     have hmem:s[k]∈s.data.toList:=(by have:=Lb.dm s k hk;exact List.mem_of_getElem? this);have hnot:¬aU s.data.toList=true:=fun h=>by
      have h2:=List.all_eq_true.1 h _ hmem;have h3:=of_decide_eq_true h2;have h4:=HV.out;omega
     unfold qE;rw[if_neg hnot]
    have HFE:=yH hfe;clear hfe
    go_wp2_with fail
    go_ret2;exact⟨_,by rw[HFE.out];rfl,hb⟩
   ·obtain⟨u,rfl⟩:∃u:Nat,v=(u:Int):=⟨v.toNat,by omega⟩;have hu:u<32:=(by omega);obtain⟨A2,hA2⟩:∃A2,A+u*2 ^ H=A2:=⟨_,rfl⟩;have hlt2:A2<2 ^ (H+5):=(by have h1:=hA.out;have h2:(u+1)*2 ^ H<=32*2 ^ H:=Nat.mul_le_mul_right _ (by omega);rw[Nat.pow_add];rw[Nat.add_mul]at h2;omega);have hlt3:A2<4096:=(by have:2 ^ (H+5)<=2 ^ 12:=Nat.pow_le_pow_right (by decide) (by omega);omega);have hor:bits BinOp.or IntKind.u64 (A:Int) (IntKind.u64.wrap ((u:Int)*2 ^ H))=(A2:Int):=Lc hA.out hu hH hA2;have BP:aU (s.data.toList.drop k)=true:=(by have hd:s.data.toList.drop k=s[k] :: s.data.toList.drop (k+1):=(by rw[List.drop_eq_getElem_cons (by simpa using hk)];rfl);rw[hd];show(decide (0<=lX s[k])&&aU _)=true;rw[HV.out,hall.out];simp);have Td:=yH BP;have Eh:=yH hlt2;have HA2:=yH hA2;clear BP hlt2 hA2 hall hA;by_cases h5:8<=H+5
    ·have zel:L.length<20:=(by have:=Zg.out;omega)
     go_wp2_with (at_builtin;refine wpList_append_own _ rfl _ _ 108 rfl w.heap.size 5 i0 (.int .u8 0) 1 1 Tryz.underlying108 hi hz0 hz1 hz2 rfl (by decide) _ _ _ rfl (hown.alloc _) ⟨wr.heap.size,0,none⟩ 1 1 [.int .u8 ((A2:Int) % 256)] rfl rfl (cell_one_new _ _ _) (by simp[Value.oneCell']) (by unfold maxLen;omega) (by omega) (by have:=hb.size;simp;omega) ?_;intro v' w1 hown' hgrow _;obtain⟨g',cap',rfl⟩:=ownsRow_succ hown')
     have hb1:Below w.heap.size w w1:=(hb.alloc (by have:=hb.size;omega) _).grown hgrow (by have:=hb.size;simp;omega) (fun k e=>(hown.lt k e).1);have hy:((A2:Int) % 256)=((UInt8.ofNat (A2 % 256)).toNat:Int):=(by rw[UInt8.toNat_ofNat_of_lt' (by show _<256;omega)];omega)
     go_roundw
     case rel =>
      refine⟨k,A2 / 256,H+5-8,L ++ [UInt8.ofNat (A2 % 256)],_,_,by rw[List.length_append];rfl,by omega,rfl,by simp,by go_num,by omega,yH ?_,?_,?_,hb1,Td⟩
      ·have h1:=Eh.out;have e:H+5=(H+5-8)+8:=(by omega);rw[e,Nat.pow_add]at h1;exact Nat.div_lt_of_lt_mul (by rw[Nat.mul_comm];exact h1)
      ·have:=Zg.out;rw[List.length_append,List.length_singleton];omega
      ·rw[List.length_append,List.length_singleton,Lib.byteCells_append];rw[hy]at hown';exact hown'
     case measure=>simp only[intOf];omega
    ·go_wp2_with fail
     go_roundw
     case rel =>
      exact⟨k,A2,H+5,L,_,_,rfl,by omega,rfl,rfl,by go_num,by omega,Eh,by have:=Zg.out;omega,hown,hb,Td⟩
     case measure=>simp only[intOf];omega
end dW

namespace dW
open Go.RowKit Mem
def letter(v:Nat):UInt8:=letters[v % 32]?.getD 0
def num:List UInt8->Nat
 | []=>0
 | c :: r=>c.toNat+256*num r
def oF(N e:Nat):List UInt8:=(List.range 32).map fun j=>if 32<=j+e then letter (N / 32 ^ (31-j))else 0
/-- the letters of twenty bytes -/
def gq(l:List UInt8):List UInt8:=oF (num l) 32
theorem iJ(N e:Nat):(oF N e).length=32:=by simp[oF]
theorem P8(N:Nat):oF N 0=List.replicate 32 0:=by
 refine List.ext_getElem (by simp[oF]) (fun j h1 h2=>?_);have:j<32:=(by simpa[oF]using h1);rw[List.getElem_replicate];simp only[oF,List.getElem_map,List.getElem_range];rw[if_neg (by omega)]
theorem U0(N e:Nat)(he:e<32):(oF N e).set (31-e) (letter (N / 32 ^ e))=oF N (e+1):=by
 refine List.ext_getElem (by simp[oF]) (fun j h1 h2=>?_);have hj:j<32:=(by simpa[oF]using h2);rw[List.getElem_set];simp only[oF,List.getElem_map,List.getElem_range];by_cases h:31-e=j
 ·subst h;rw[if_pos rfl,if_pos (by omega),show 31-(31-e)=e by omega]
 ·rw[if_neg h];by_cases h3:32<=j+e
  ·rw[if_pos h3,if_pos (by omega)]
  ·rw[if_neg h3,if_neg (by omega)]
theorem II(N x i j:Nat)(h:5*(j+1)<=8*i):letter ((N+x*256 ^ i) / 32 ^ j)=letter (N / 32 ^ j):=by
 have e:256 ^ i=32 ^ j*(32*2 ^ (8*i-5*(j+1))):=(by rw[show(256:Nat)=2 ^ 8 by decide,show(32:Nat)=2 ^ 5 by decide,←Nat.pow_mul,←Nat.pow_mul,←Nat.pow_add,←Nat.pow_add];congr 1;omega);unfold letter;rw[e,show x*(32 ^ j*(32*2 ^ (8*i-5*(j+1))))=32 ^ j*(x*(32*2 ^ (8*i-5*(j+1)))) by rw[Nat.mul_left_comm],Nat.add_mul_div_left _ _ (Nat.pow_pos (by decide)),show x*(32*2 ^ (8*i-5*(j+1)))=32*(x*2 ^ (8*i-5*(j+1))) by rw[Nat.mul_left_comm],Nat.add_mul_mod_self_left]
theorem U1(N x i e:Nat)(h:5*e<=8*i)(he:e<=32):oF (N+x*256 ^ i) e=oF N e:=by
 refine List.ext_getElem (by simp[oF]) (fun j h1 h2=>?_);have hj:j<32:=(by simpa[oF]using h2);simp only[oF,List.getElem_map,List.getElem_range];by_cases h3:32<=j+e
 ·rw[if_pos h3,if_pos h3,II _ _ _ _ (by omega)]
 ·rw[if_neg h3,if_neg h3]
theorem P9(N x i e:Nat)(h:5*e<=8*i):(N+x*256 ^ i) / 32 ^ e=N / 32 ^ e+x*2 ^ (8*i-5*e):=by
 have h2:256 ^ i=32 ^ e*2 ^ (8*i-5*e):=(by rw[show(256:Nat)=2 ^ 8 by decide,show(32:Nat)=2 ^ 5 by decide,←Nat.pow_mul,←Nat.pow_mul,←Nat.pow_add];congr 1;omega);rw[h2,Nat.mul_left_comm,Nat.add_mul_div_left _ _ (Nat.pow_pos (by decide))]
theorem ER(a b:List UInt8):num (a++b)=num a+num b*256 ^ a.length:=by
 induction a with
 | nil=>simp[num]
 | cons c r ih =>
  simp only[List.cons_append,num,ih,List.length_cons,Nat.pow_succ];rw[Nat.mul_add,Nat.add_assoc,show 256*(num b*256 ^ r.length)=num b*(256 ^ r.length*256) by rw[Nat.mul_comm (256 ^ r.length),Nat.mul_left_comm]]
theorem Ld(l:List UInt8):num l<256 ^ l.length:=by
 induction l with
 | nil=>simp[num]
 | cons c r ih =>
  have:=c.toNat_lt;simp only[num,List.length_cons,Nat.pow_succ];omega
theorem IJ{A u H A2:Nat}(hA:A<2 ^ H)(hu:u<256)(hH:H<5)(h:A+u*2 ^ H=A2):bits BinOp.or IntKind.u64 (A:Int) (IntKind.u64.wrap ((u:Int)*2 ^ H))=(A2:Int):=by
 have hp:2 ^ H<=2 ^ 5:=Nat.pow_le_pow_right (by decide) (by omega);have hm:u*2 ^ H<=256*2 ^ H:=Nat.mul_le_mul_right _ (by omega);have e:IntKind.u64.wrap ((u:Int)*2 ^ H)=((u*2 ^ H:Nat):Int):=(by have:((u:Int)*2 ^ H)=((u*2 ^ H:Nat):Int):=(by simp);rw[this,IntKind.wrap_u64];omega);rw[e,u64_or_nat A (u*2 ^ H) (by omega) (by omega)];have:=Nat.two_pow_add_eq_or_of_lt hA u;rw[Nat.or_comm,Nat.mul_comm u,←this,←h,Nat.mul_comm u];omega
theorem Zh(A:Nat)(h:A<1048576):bits BinOp.and IntKind.u64 (A:Int) 31=((A % 32:Nat):Int):=by
 have:=u64_and_nat A 31 (by omega) (by omega);rw[show((31:Nat):Int)=(31:Int)from rfl]at this;rw[this];have h2:=Nat.and_two_pow_sub_one_eq_mod A 5;simp at h2;rw[h2]
theorem ES(v:Nat)(h:v<32):letters[v]? = some (letter v):=by
 unfold letter;rw[Nat.mod_eq_of_lt h,List.getElem?_eq_getElem (by simpa[letters]using h)];rfl
theorem BQ(v:Nat)(x:Int)(hx:x=((v:Nat):Int))(h:v<32)(w:World) :
 (Instr.index 9 (.string { data:=#[48,49,50,51,52,53,54,55,56,57,97,98,99,100,102,103,104,105,106,107,108,109,110,112,113,114,115,118,119,120,121,122] }) (.int .u64 x)).run Tryz.prog w = .ok (.int .u8 ((letter v).toNat:Int)) w:=by
 subst hx;have h32:(v:Int)<32:=(by omega);have h0:(0:Int)<=v:=(by omega);have hd:=ES v h
 go_simp;have hl:v<letters.length:=(by simpa[letters]using h);rw[List.getElem?_eq_getElem hl]at hd;rw[←Option.some.inj hd];rfl
set_option maxRecDepth 100000 in
theorem Tf(s:ByteArray)(hs:s.size=20)(w:World):Calls Tryz.prog 71 #[.string s] w fun e w'=>e = .returned (.string ⟨(gq s.data.toList).toArray⟩)/\Below w.heap.size w w':=by
 obtain⟨i0,hi,hz0,hz1,hz2⟩:=info_parts infoByte;have hsi:((s.size:Nat):Int)=20:=(by omega);have HS:=yH hs;clear hs;have hmk:∀w,(Instr.makeSlice 108 (.int .i64 32) (.int .i64 32)).run Tryz.prog w = .ok (.slice (some ⟨w.heap.size,0,none⟩) 32 32) (w.alloc (.cells (Array.replicate 32 (.int .u8 0)) 5)):=fun _=>by kernel_rfl
 have hown:(w.alloc (.cells (Array.replicate 32 (.int .u8 0)) 5)).ownsRow w.heap.size 5 1 (.slice (some ⟨w.heap.size,0,none⟩) 32 32) 32 (Lib.byteCells (oF 0 0)):=(by refine⟨by rw[Lib.byteCells_length,iJ],.inr ⟨w.heap.size,32,Array.replicate 32 (.int .u8 0),rfl,Nat.le_refl _,heap_alloc_new w _,Nat.le_refl _,by unfold maxLen;omega,by simp,?_⟩⟩;rw[P8];simp[Lib.byteCells]);have HO:=yH hown;clear hown
 go_enter Tryz.func71,Tryz.ntmps71
 go_wp2_with fail
 go_loopw [5,6,7,8,19] (fun a h at' _ i wr=>∃k e:Nat,k<=20/\i = .int .i64 k/\a = .int .u64 ((num (s.data.toList.take k) / 32 ^ e:Nat):Int)/\h = .int .u64 ((8*k-5*e:Nat):Int)/\at' = .int .i64 ((32-e:Nat):Int)/\e<=32/\5*e<=8*k/\8*k<5*e+5/\wr.ownsRow w.heap.size 5 1 (.slice (some ⟨w.heap.size,0,none⟩) 32 32) 32 (Lib.byteCells (oF (num (s.data.toList.take k)) e))/\Below w.heap.size w wr) (fun _ _ _ _ i _=>20-(intOf i).toNat)
 case atStart=>exact⟨0,0,by omega,rfl,by simp[num],rfl,rfl,by omega,by omega,by omega,HO.out,(Below.refl _ _).alloc (Nat.le_refl _) _⟩
 case round =>
  obtain⟨k,e,hk,rfl,rfl,rfl,rfl,he,h1,h2,hown,hb⟩:=hrel;by_cases hlt:k<20
  ·have k0:(0:Int)<=(k:Int):=Int.natCast_nonneg _;have k1:(k:Int)<20:=(by omega);have hks:k<s.size:=(by have:=HS.out;omega);have hlen:(s.data.toList.take k).length=k:=(by rw[List.length_take];have:=HS.out;simp;omega);have hN:=Ld (s.data.toList.take k);rw[hlen]at hN;have htk:=Lb.take_snoc s k hks;have hnum:num (s.data.toList.take (k+1))=num (s.data.toList.take k)+s[k].toNat*256 ^ k:=(by rw[htk,ER,hlen];simp[num]);generalize hNN:num (s.data.toList.take k)=N at *;have hA:N / 32 ^ e<2 ^ (8*k-5*e):=(by rw[Nat.div_lt_iff_lt_mul (Nat.pow_pos (by decide)),show(32:Nat)=2 ^ 5 by decide,←Nat.pow_mul,←Nat.pow_add,show 8*k-5*e+5*e=8*k by omega];rw[show(256:Nat)=2 ^ 8 by decide,←Nat.pow_mul]at hN;exact hN);have hc:=s[k].toNat_lt;obtain⟨A2,hA2⟩:∃A2,N / 32 ^ e+s[k].toNat*2 ^ (8*k-5*e)=A2:=⟨_,rfl⟩;have hor:=IJ hA hc (by omega) hA2;have Zi:A2=num (s.data.toList.take (k+1)) / 32 ^ e:=(by rw[hnum,P9 _ _ _ _ h1,hA2]);have ho2:oF (num (s.data.toList.take (k+1))) e=oF N e:=(by rw[hnum,U1 _ _ _ _ h1 he]);rw[←ho2]at hown;have hN2:=Ld (s.data.toList.take (k+1));have hlen2:(s.data.toList.take (k+1)).length=k+1:=(by rw[List.length_take];have:=HS.out;simp;omega);rw[hlen2]at hN2;have zca:=yH Zi;have oN:=yH hN2;have HNN:=yH hNN;generalize hM:num (s.data.toList.take (k+1))=M at *;have HM:=yH hM;obtain⟨hh,hhe⟩:∃hh:Nat,8*k-5*e=hh:=⟨_,rfl⟩;rw[hhe]at hor ⊢;have hh5:hh<5:=(by omega);have HH:=yH hhe;clear hlen hN htk hnum hNN hA hA2 Zi ho2 hN2 hlen2 hM hhe hsi hmk;generalize BU:N / 32 ^ e=BB at *;clear BU
   go_wp2_with fail;obtain⟨wo,hwo⟩:∃wo,wo=wr:=⟨_,rfl⟩;subst hwo
   go_loopw [5,6,7] (fun a h at' wi=>∃e2:Nat,e<=e2/\e2<=32/\a = .int .u64 ((M / 32 ^ e2:Nat):Int)/\h = .int .u64 ((8*(k+1)-5*e2:Nat):Int)/\at' = .int .i64 ((32-e2:Nat):Int)/\5*e2<=8*(k+1)/\wi.ownsRow w.heap.size 5 1 (.slice (some ⟨w.heap.size,0,none⟩) 32 32) 32 (Lib.byteCells (oF M e2))/\Below w.heap.size w wi) (fun _ h _ _=>(intOf h).toNat)
   case atStart =>
    refine⟨e,Nat.le_refl _,he,?_,?_,rfl,by omega,hown,hb⟩
    ·rw[zca.out]
    ·have:=HH.out;rw[show 8*(k+1)-5*e=hh+8 by omega];go_num
   case round =>
    obtain⟨e2,hee,he2,rfl,rfl,rfl,h3,hown2,hb2⟩:=hrel;obtain⟨q,hq⟩:∃q,8*(k+1)-5*e2=q:=⟨_,rfl⟩;have hAA:M / 32 ^ e2<1048576:=(by have h4:=oN.out;have h5:M<2 ^ (q+5*e2):=(by rw[show(256:Nat)=2 ^ 8 by decide,←Nat.pow_mul]at h4;rw[show q+5*e2=8*(k+1) by omega];exact h4);rw[Nat.div_lt_iff_lt_mul (Nat.pow_pos (by decide)),show(32:Nat)=2 ^ 5 by decide,←Nat.pow_mul,show(1048576:Nat)=2 ^ 20 by decide,←Nat.pow_add];have h6:=HH.out;exact Nat.lt_of_lt_of_le h5 (Nat.pow_le_pow_right (by decide) (by omega)));rw[hq];have hq12:q<=12:=(by have:=HH.out;omega);have HQ:=yH hq;clear hq;by_cases h5:5<=q
    ·obtain⟨r,hr⟩:∃r,32-e2=r+1:=⟨31-e2,by have:=HQ.out;omega⟩;have zem:r<32:=(by omega);have hset:=U0 M e2 (by omega);have hdd:M / 32 ^ e2 / 32=M / 32 ^ (e2+1):=(by rw[Nat.div_div_eq_div_mul,←Nat.pow_succ]);obtain⟨AA,Zj⟩:∃AA,M / 32 ^ e2=AA:=⟨_,rfl⟩;rw[Zj]at hAA hset hdd ⊢;have hidx:=BQ (AA % 32) _ (Zh AA hAA) (Nat.mod_lt _ (by decide));have hlet:letter (AA % 32)=letter AA:=(by unfold letter;rw[Nat.mod_mod]);rw[hlet]at hidx;have hc0:wr.cell? ⟨w.heap.size,r,none⟩=some (.int .u8 (((oF M e2)[r]?.getD 0).toNat:Int)):=(by rw[hown2.cellAt _ (by omega),Lb.di,List.getElem?_eq_getElem (by rw[iJ];omega)];rfl);have hf0:wr.frozen? ⟨w.heap.size,r,none⟩=false:=hown2.frozenAt _;have hst:=(hown2.stored r (.int .u8 ((letter AA).toNat:Int))).1;rw[Lb.dM,show r=31-e2 by omega,hset,show 31-e2=r by omega]at hst;rw[hr];have HST:=yH hst;have BV:=yH hdd;have HR:=yH hr;clear hst hdd hset hlet Zj hr
     go_wp2_with fail
     go_roundw
     case rel =>
      refine⟨e2+1,by omega,by have:=HR.out;omega,?_,?_,?_,?_,HST.out,hb2.setCell (p:=⟨w.heap.size,r,none⟩) (Nat.le_refl _) _⟩
      ·rw[←BV.out];simp
      ·have:=HQ.out;rw[show 8*(k+1)-5*(e2+1)=q-5 by omega];go_num
      ·have:=HR.out;rw[show 32-(e2+1)=r by omega]
      ·have:=HQ.out;omega
     case measure=>simp[intOf];omega
    ·go_wp2_with fail
     go_roundw
     case rel =>
      have:=HQ.out;refine⟨k+1,e2,by omega,by go_num,?_,?_,rfl,he2,by omega,by omega,?_,hb2⟩
      ·rw[HM.out]
      ·rw[show 8*(k+1)-5*e2=q by omega]
      ·rw[HM.out];exact hown2
     case measure=>simp[intOf];omega
  ·obtain rfl:k=20:=(by omega);obtain rfl:e=32:=(by omega);have hcv:=Lb.kY (P:=Tryz.prog) Tryz.underlying108 Tryz.underlying5 Tryz.underlying9 (by rw[iJ]) hown;have hfull:oF (num (s.data.toList.take 20)) 32=gq s.data.toList:=(by unfold gq;rw[List.take_of_length_le (by have:=HS.out;simp;omega)]);rw[hfull]at hcv;clear hfull hmk hsi;have e0:((8*20-5*32:Nat):Int)=0:=rfl;rw[e0];clear e0
   go_wp2_with fail
   go_ret;exact⟨rfl,hb⟩
end dW

namespace dW
open Go.RowKit Mem
/-- the room after k bytes of l, folded in n -/
def jl(l:List UInt8)(n:Nat):Nat->List UInt8
 | 0=>List.replicate 64 0
 | k+1=>(jl l n k).set (k % n) ((jl l n k)[k % n]?.getD 0 ^^^ l[k]?.getD 0)
/-- the fold of l in n bytes -/
def kG(l:List UInt8)(n:Nat):List UInt8:=(jl l n l.length).take n
theorem jq(l:List UInt8)(n k:Nat):(jl l n k).length=64:=by
 induction k with
 | zero=>simp[jl]
 | succ k ih=>simp[jl,ih]
theorem qF(l:List UInt8)(n:Nat)(h:n<=64):(kG l n).length=n:=by
 simp[kG,jq];omega
set_option maxRecDepth 20000 in
theorem Ti(s:ByteArray)(hs:s.size=32)(w:World) :
 Calls Tryz.prog 70 #[.string s,.int .i64 20] w fun e w'=>e = .returned (.tuple #[.string ⟨(kG s.data.toList 20).toArray⟩,.int .i64 0])/\Below w.heap.size w w':=by
 go_enter Tryz.func70,Tryz.ntmps70
 go_wp2_with fail
 go_loopw [16,7] (fun i _ wr=>∃k:Nat,k<=s.size/\i = .int .i64 k/\Bx wr w.heap.size (Lib.byteCells (jl s.data.toList 20 k)).toArray 170/\Below w.heap.size w wr) (fun i _ _=>s.size-(intOf i).toNat)
 case atStart=>exact⟨0,by omega,rfl,Bx.new _ _ _,(Below.refl _ _).alloc (Nat.le_refl _) _⟩
 case round =>
  obtain⟨k,hk,rfl,hbx,hb⟩:=hrel;by_cases hlt:k<s.size
  ·have k0:(0:Int)<=(k:Int):=Int.natCast_nonneg _;have k1:(k:Int)<s.size:=(by omega);obtain⟨j,hj⟩:∃j,k % 20=j:=⟨_,rfl⟩;have zen:j<20:=(by omega);have j0:(0:Int)<=(j:Int):=Int.natCast_nonneg _;have j1:(j:Int)<64:=(by omega);have p0:wr.cell? ⟨w.heap.size,j,none⟩=some (.int .u8 (((jl s.data.toList 20 k)[j]?.getD 0).toNat:Int)):=(by rw[hbx.cell];simp[Lib.byteCells,jq,show j<64 by omega]);have f0:=hbx.frozen j;have hr2:=hbx.set j (.int .u8 (((jl s.data.toList 20 k)[j]?.getD 0 ^^^ s[k]).toNat:Int));have hrs:(jl s.data.toList 20 k).set j ((jl s.data.toList 20 k)[j]?.getD 0 ^^^ s[k])=jl s.data.toList 20 (k+1):=(by rw[jl,hj];congr 2;rw[List.getElem?_eq_getElem (by simpa using hlt)];rfl);rw[List.setIfInBounds_toArray,Lb.dM,hrs]at hr2;have hx:bits BinOp.xor IntKind.u8 (((jl s.data.toList 20 k)[j]?.getD 0).toNat:Int) (s[k].toNat:Int)=(((jl s.data.toList 20 k)[j]?.getD 0 ^^^ s[k]).toNat:Int):=(by rw[u8_xor_nat _ _ (UInt8.toNat_lt _) (UInt8.toNat_lt _),UInt8.toNat_xor]);have HR:=yH hr2;have HX:=yH hx;have HJ:=yH hj;clear hr2 hrs hx hj;generalize (jl s.data.toList 20 k)[j]?.getD 0=rr at *;have zeo:(k:Int).tmod 20=(j:Int):=(by rw[Int.tmod_eq_emod_of_nonneg k0];have:=HJ.out;omega)
   go_wp2_with fail
   go_region
   go_wp2_with fail
   go_roundw
   case rel =>
    refine⟨k+1,by omega,by go_num,?_,(hb.setCell (p:=⟨w.heap.size,j,none⟩) (Nat.le_refl _) _).drew⟩;rw[HX.out];exact HR.out
   case measure=>simp[intOf];omega
  ·have hke:k=s.size:=(by omega);have hge:¬(k:Int)<32:=(by omega);have k0:(0:Int)<=(k:Int):=Int.natCast_nonneg _;rw[hke]at hbx;have hcv:=run_convert_bytes_arg (P:=Tryz.prog) wr 108 5 Tryz.underlying108 Tryz.underlying5 w.heap.size 0 20 64 ((kG s.data.toList 20).map fun b=>(b.toNat:Int)) (by simp[kG,jq]) (fun i hi=>by
    rw[Nat.zero_add,hbx.cell];simp[Lib.byteCells,jq,kG,hi,List.getD,show i<64 by omega]) 9 Tryz.underlying9
   rw[Lb.strOfNums_bytes]at hcv;clear hs hke
   go_wp2_with fail
   go_ret2;exact⟨rfl,hb⟩
end dW

namespace Pre
open Go.RowKit Mem
def gu(s p:ByteArray):Bool:=decide (s.data.toList.take p.size=p.data.toList)
theorem yx{s p:ByteArray}(h:gu s p=true):p.size<=s.size:=by
 have:=congrArg List.length (of_decide_eq_true h);simp at this;have h2:p.data.toList.length=p.size:=(by simp);have h3:s.data.toList.length=s.size:=(by simp);simp at h2 h3;omega
theorem extract_eq(s p:ByteArray):((s.extract 0 p.size).toList==p.toList)=gu s p:=by
 rw[Lib.toList_data,Lib.toList_data];have:(s.extract 0 p.size).data.toList=s.data.toList.take p.size:=(by simp[ByteArray.data_extract,Array.toList_extract]);rw[this];unfold gu;by_cases h:List.take p.size s.data.toList=p.data.toList<;>simp[h]
theorem vT(s p:ByteArray)(w:World) :
 Calls Tryz.prog 161 #[.string s,.string p] w fun e w'=>e = .returned (.bool (gu s p))/\w'=w:=by
 go_enter Tryz.func161,Tryz.ntmps161;by_cases h:p.size<=s.size
 ·have h1:(p.size:Int)<=s.size:=(by omega)
  go_wp2_with fail
  go_ret;rw[extract_eq];exact⟨rfl,rfl⟩
 ·have h1:¬(p.size:Int)<=s.size:=(by omega)
  go_wp2_with fail
  go_ret;refine⟨?_,rfl⟩;have:gu s p=false:=by
   cases hh:gu s p
   ·rfl
   ·exact absurd (yx hh) h
  rw[this];rfl
/-- what strings.CutPrefix gives -/
def kC(s p:ByteArray):Value:=match gu s p with
 | true=>.tuple #[.string (s.extract p.size s.size),.bool true]
 | false=>.tuple #[.string s,.bool false]
theorem Zk(s p:ByteArray)(w:World) :
 Calls Tryz.prog 125 #[.string s,.string p] w fun e w'=>e = .returned (kC s p)/\w'=w:=by
 have hC:=vT s p w;cases hh:gu s p
 ·have hc:kC s p = .tuple #[.string s,.bool false]:=(by unfold kC;rw[hh]);rw[hh]at hC;rw[hc];clear hc hh
  go_enter Tryz.func125,Tryz.ntmps125
  go_wp2_with (first|(refine hC.mono ?_;rintro e w1 ⟨rfl,rfl⟩))
  go_ret2;exact⟨rfl,rfl⟩
 ·have hc:kC s p = .tuple #[.string (s.extract p.size s.size),.bool true]:=(by unfold kC;rw[hh]);have hl:=yx hh;have hl1:(p.size:Int)<=s.size:=(by omega);rw[hh]at hC;rw[hc];clear hc hh
  go_enter Tryz.func125,Tryz.ntmps125
  go_wp2_with (first|(refine hC.mono ?_;rintro e w1 ⟨rfl,rfl⟩))
  go_ret2;exact⟨rfl,rfl⟩
theorem Le(s p:ByteArray)(w:World) :
 Calls Tryz.prog 83 #[.string s,.string p] w fun e w'=>e = .returned (kC s p)/\w'=w:=by
 obtain⟨a,b,hab⟩:∃a b,kC s p = .tuple #[.string a,.bool b]:=by
  unfold kC;cases gu s p
  ·exact⟨_,_,rfl⟩
  ·exact⟨_,_,rfl⟩
 go_enter Tryz.func83,Tryz.ntmps83;have hC:=Zk s p w;rw[hab]at hC ⊢;clear hab
 go_wp2_with (first|(refine hC.mono ?_;rintro e w1 ⟨rfl,rfl⟩))
 go_ret2;exact⟨rfl,rfl⟩
end Pre

namespace Pre
open Go.RowKit Mem
set_option maxRecDepth 20000 in
theorem BX(s:ByteArray)(c:Nat)(hc:c<128)(w:World) :
 Calls Tryz.prog 152 #[.string s,.int .i32 (c:Int)] w fun e w'=>e = .returned (.int .i64 (firstIdx s (UInt8.ofNat c)))/\w'=w:=by
 have c0:(0:Int)<=(c:Int):=Int.natCast_nonneg _;have c1:(c:Int)<128:=(by omega);have hC:=yu.strings_IndexByte s (c:Int) w
 go_enter Tryz.func152,Tryz.ntmps152
 go_wp2_with (first|(refine hC.mono ?_;rintro e w1 ⟨rfl,rfl⟩))
 go_ret;exact⟨rfl,rfl⟩
def hasB(s:ByteArray)(c:Nat):Bool:=decide (0<=firstIdx s (UInt8.ofNat c))
set_option maxRecDepth 20000 in
theorem qG(s:ByteArray)(c:Nat)(hc:c<128)(w:World) :
 Calls Tryz.prog 114 #[.string s,.int .i32 (c:Int)] w fun e w'=>e = .returned (.bool (hasB s c))/\w'=w:=by
 have hC:=BX s c hc w;obtain⟨z,hz⟩:∃z,firstIdx s (UInt8.ofNat c)=z:=⟨_,rfl⟩;have hb:hasB s c=decide (0<=z):=(by unfold hasB;rw[hz]);rw[hz]at hC;rw[hb];clear hz hb
 go_enter Tryz.func114,Tryz.ntmps114
 go_wp2_with (first|(refine hC.mono ?_;rintro e w1 ⟨rfl,rfl⟩))
 go_ret;exact⟨rfl,rfl⟩
def eP:ByteArray:=⟨#[43,45,46,95,63,61]⟩
def lg(c:Nat):Bool:=decide (48<=c/\c<=57∨97<=c/\c<=122∨65<=c/\c<=90)||(decide (c<128)&&hasB eP c)
def nH(l:List UInt8):Bool:=decide (1<=l.length/\l.length<=211/\l[0]?≠some 46)&&l.all fun b=>lg b.toNat
def cZ(s:ByteArray):Int:=if nH s.data.toList then 0 else 130
theorem Qa(c:Nat)(h:128<=c):lg c=false:=by
 have h1:¬c<128:=(by omega);have h2:¬(48<=c/\c<=57∨97<=c/\c<=122∨65<=c/\c<=90):=(by omega);simp[lg,h1,h2]
theorem zO(c:Nat)(h:48<=c/\c<=57∨97<=c/\c<=122∨65<=c/\c<=90):lg c=true:=by
 simp[lg,h]
theorem qH(c:Nat)(hc:c<128)(h:¬(48<=c/\c<=57∨97<=c/\c<=122∨65<=c/\c<=90)):lg c=hasB eP c:=by
 simp[lg,h,hc]
theorem BZ{s:ByteArray}(k:Nat)(h:k<s.size)(hb:lg (s[k]).toNat=false):cZ s=130:=by
 unfold cZ;rw[if_neg];intro hh;unfold nH at hh;rw[Bool.and_eq_true]at hh;have:=List.all_eq_true.mp hh.2 s[k] (List.mem_of_getElem? (Lb.dm s k h));rw[hb]at this;cases this
theorem Qb{s:ByteArray}(h1:1<=s.size)(h2:s.size<=211)(h3:(s[0]'h1)≠46)(h:∀j (hj:j<s.size),lg (s[j]).toNat=true):cZ s=0:=by
 unfold cZ;rw[if_pos];unfold nH;rw[Bool.and_eq_true];refine⟨decide_eq_true ⟨by simpa using h1,by simpa using h2,?_⟩,List.all_eq_true.mpr fun b hb=>?_⟩
 ·rw[Lb.dm s 0 h1];intro hh;exact h3 (Option.some.inj hh)
 ·obtain⟨j,hj,he⟩:=List.getElem_of_mem hb;have hj2:j<s.size:=(by simpa using hj);have h4:=h j hj2;have h5:s[j]=b:=(by rw[←he];rfl);rw[h5]at h4;exact h4
theorem pJ{s:ByteArray}(h:¬(1<=s.size/\s.size<=211/\s.data.toList[0]?≠some 46)):cZ s=130:=by
 unfold cZ;rw[if_neg];intro hh;unfold nH at hh;rw[Bool.and_eq_true]at hh;refine h ?_;have:=of_decide_eq_true hh.1
 simpa using this
set_option maxRecDepth 20000 in
theorem rY(s:ByteArray)(w:World) :
 Calls Tryz.prog 67 #[.string s] w fun e w'=>e = .returned (.int .i64 (cZ s))/\Below w.heap.size w w':=by
 rcases Nat.eq_zero_or_pos s.size with h0|h0
 ·have hE:=pJ (s:=s) (by rintro⟨_,_,_⟩;omega);obtain rfl:s=⟨#[]⟩:=ByteArray.ext (Array.eq_empty_of_size_eq_zero h0);rw[hE];clear hE h0
  go_enter Tryz.func67,Tryz.ntmps67
  go_wp2_with fail
  go_ret;exact⟨rfl,Below.refl _ _⟩
 have t1:(s.toList == [])=false:=by
  rw[Lib.toList_data];cases hl:s.data.toList with
  | nil =>
   have hlen:s.data.toList.length=s.size:=Array.length_toList;rw[hl]at hlen;have:0=s.size:=hlen;omega
  | cons _ _=>rfl
 by_cases h1:211<s.size
 ·have hE:=pJ (s:=s) (by rintro⟨_,_,_⟩;omega);have h2:(211:Int)<s.size:=(by omega);rw[hE];clear hE
  go_enter Tryz.func67,Tryz.ntmps67
  go_wp2_with fail
  go_ret;exact⟨rfl,Below.refl _ _⟩
 have h2:¬(211:Int)<s.size:=(by omega);have h3:(0:Int)<s.size:=(by omega);by_cases h4:s[0]=46
 ·have hE:=pJ (s:=s) (by rintro⟨_,_,h5⟩;rw[Lb.dm s 0 h0,h4]at h5;exact h5 rfl);rw[hE];clear hE
  go_enter Tryz.func67,Tryz.ntmps67
  go_wp2_with fail
  go_ret;exact⟨rfl,Below.refl _ _⟩
 have h5:¬((s[0].toNat:Int)=46):=fun h=>h4 (UInt8.toNat_inj.mp (by show _=46;omega))
 go_enter Tryz.func67,Tryz.ntmps67;have H4:=yH h4;clear h4
 go_wp2_with fail
 go_loopw [4] (fun _ wr=>∃k:Nat,k<=s.size/\wr.heap[w.heap.size]? = some (.stringIter s k)/\Below w.heap.size w wr/\∀j (hj:j<s.size),j<k->lg (s[j]).toNat=true) (fun _ wr=>s.size-wr.iterPos w.heap.size)
 case atStart=>exact⟨0,by omega,World.iter_heap w s 0,(Below.refl _ _).alloc (Nat.le_refl _) _,fun j _ h=>absurd h (by omega)⟩
 case round =>
  obtain⟨k,hk,hit,hb,hall⟩:=hrel;have hpos0:wr.iterPos w.heap.size=k:=(by simp[World.iterPos,hit]);have vU:=yH hall;have rZ:=yH hpos0;clear hall hpos0;by_cases hp:k<s.size
  ·have hnx:∀ty,(Instr.next (.pointer (some ⟨w.heap.size,0,none⟩)) true ty).run Tryz.prog wr=_:=fun ty=>Lib.run_next_any_at wr w.heap.size s k ty hit hp
   have hb2:=Lib.below_iterAt hb (k:=w.heap.size) (Nat.le_refl _) s (k+(Utf8.decode s k).2);have hit2:=Lib.iterAt_heap wr w.heap.size s k (k+(Utf8.decode s k).2) hit;have HP:=yH hp;by_cases hc:(s[k]'hp).toNat<128
   ·have hd:=decode_ascii s k hp hc;rw[hd]at hnx hb2 hit2;dsimp only at hnx hb2 hit2;have HIT:=yH hit2;have HB:=yH hb2;obtain⟨W1,hW1⟩:∃W1,W1=wr.iterAt w.heap.size s (k+1):=⟨_,rfl⟩;rw[←hW1]at hnx HIT HB;obtain⟨c,hce⟩:∃c,(s[k]'hp).toNat=c:=⟨_,rfl⟩;rw[hce]at hnx hc;have HC:=yH hce;have c0:(0:Int)<=(c:Int):=Int.natCast_nonneg _;have c7:(c:Int)<128:=(by omega);clear hd hit hb hit2 hb2 hW1 hce;have BP:lg c=true->∀j (hj:j<s.size),j<k+1->lg (s[j]).toNat=true:=fun hl j hj hjk=>by
     rcases Nat.lt_succ_iff_lt_or_eq.mp hjk with h|h
     ·exact vU.out j hj h
     ·subst h;rw[HC.out];exact hl
    have HA2:=yH BP;have hbad:lg c=false->cZ s=130:=fun hl=>BZ k hp (by rw[HC.out];exact hl)
    have HBAD:=yH hbad;clear BP hbad;by_cases i47:c<=47
    ·have a0:¬(48:Int)<=(c:Int):=(by omega);have a1:(c:Int)<=57:=(by omega);have a2:¬(97:Int)<=(c:Int):=(by omega);have a3:(c:Int)<=122:=(by omega);have a4:¬(65:Int)<=(c:Int):=(by omega);have a5:(c:Int)<=90:=(by omega);have hl:=qH c (by omega) (by omega);have hR:=qG eP c (by omega) W1;cases hh:hasB eP c
     ·rw[hh]at hl hR;have HL:=yH hl;clear hl hh;unfold eP at hR
      go_wp2_with (first|(refine hR.mono ?_;rintro e w1 ⟨rfl,rfl⟩))
      go_ret;exact⟨by show Ending.returned (.int .i64 130)=_;rw[HBAD.out HL.out],HB.out⟩
     ·rw[hh]at hl hR;have HL:=yH hl;clear hl hh;unfold eP at hR
      go_wp2_with (first|(refine hR.mono ?_;rintro e w1 ⟨rfl,rfl⟩))
      go_roundw
      case rel=>exact⟨k+1,by have:=HP.out;omega,HIT.out,HB.out,HA2.out HL.out⟩
      case measure=>rw[rZ.out,World.iterPos,HIT.out];have:=HP.out;simp;omega
    by_cases i57:c<=57
    ·have a0:(48:Int)<=(c:Int):=(by omega);have a1:(c:Int)<=57:=(by omega);have a2:¬(97:Int)<=(c:Int):=(by omega);have a3:(c:Int)<=122:=(by omega);have a4:¬(65:Int)<=(c:Int):=(by omega);have a5:(c:Int)<=90:=(by omega);have hl:=zO c (by omega);have HL:=yH hl;clear hl
     go_wp2_with fail
     go_roundw
     case rel=>exact⟨k+1,by have:=HP.out;omega,HIT.out,HB.out,HA2.out HL.out⟩
     case measure=>rw[rZ.out,World.iterPos,HIT.out];have:=HP.out;simp;omega
    by_cases i64:c<=64
    ·have a0:(48:Int)<=(c:Int):=(by omega);have a1:¬(c:Int)<=57:=(by omega);have a2:¬(97:Int)<=(c:Int):=(by omega);have a3:(c:Int)<=122:=(by omega);have a4:¬(65:Int)<=(c:Int):=(by omega);have a5:(c:Int)<=90:=(by omega);have hl:=qH c (by omega) (by omega);have hR:=qG eP c (by omega) W1;cases hh:hasB eP c
     ·rw[hh]at hl hR;have HL:=yH hl;clear hl hh;unfold eP at hR
      go_wp2_with (first|(refine hR.mono ?_;rintro e w1 ⟨rfl,rfl⟩))
      go_ret;exact⟨by show Ending.returned (.int .i64 130)=_;rw[HBAD.out HL.out],HB.out⟩
     ·rw[hh]at hl hR;have HL:=yH hl;clear hl hh;unfold eP at hR
      go_wp2_with (first|(refine hR.mono ?_;rintro e w1 ⟨rfl,rfl⟩))
      go_roundw
      case rel=>exact⟨k+1,by have:=HP.out;omega,HIT.out,HB.out,HA2.out HL.out⟩
      case measure=>rw[rZ.out,World.iterPos,HIT.out];have:=HP.out;simp;omega
    by_cases i90:c<=90
    ·have a0:(48:Int)<=(c:Int):=(by omega);have a1:¬(c:Int)<=57:=(by omega);have a2:¬(97:Int)<=(c:Int):=(by omega);have a3:(c:Int)<=122:=(by omega);have a4:(65:Int)<=(c:Int):=(by omega);have a5:(c:Int)<=90:=(by omega);have hl:=zO c (by omega);have HL:=yH hl;clear hl
     go_wp2_with fail
     go_roundw
     case rel=>exact⟨k+1,by have:=HP.out;omega,HIT.out,HB.out,HA2.out HL.out⟩
     case measure=>rw[rZ.out,World.iterPos,HIT.out];have:=HP.out;simp;omega
    by_cases i96:c<=96
    ·have a0:(48:Int)<=(c:Int):=(by omega);have a1:¬(c:Int)<=57:=(by omega);have a2:¬(97:Int)<=(c:Int):=(by omega);have a3:(c:Int)<=122:=(by omega);have a4:(65:Int)<=(c:Int):=(by omega);have a5:¬(c:Int)<=90:=(by omega);have hl:=qH c (by omega) (by omega);have hR:=qG eP c (by omega) W1;cases hh:hasB eP c
     ·rw[hh]at hl hR;have HL:=yH hl;clear hl hh;unfold eP at hR
      go_wp2_with (first|(refine hR.mono ?_;rintro e w1 ⟨rfl,rfl⟩))
      go_ret;exact⟨by show Ending.returned (.int .i64 130)=_;rw[HBAD.out HL.out],HB.out⟩
     ·rw[hh]at hl hR;have HL:=yH hl;clear hl hh;unfold eP at hR
      go_wp2_with (first|(refine hR.mono ?_;rintro e w1 ⟨rfl,rfl⟩))
      go_roundw
      case rel=>exact⟨k+1,by have:=HP.out;omega,HIT.out,HB.out,HA2.out HL.out⟩
      case measure=>rw[rZ.out,World.iterPos,HIT.out];have:=HP.out;simp;omega
    by_cases i122:c<=122
    ·have a0:(48:Int)<=(c:Int):=(by omega);have a1:¬(c:Int)<=57:=(by omega);have a2:(97:Int)<=(c:Int):=(by omega);have a3:(c:Int)<=122:=(by omega);have a4:(65:Int)<=(c:Int):=(by omega);have a5:¬(c:Int)<=90:=(by omega);have hl:=zO c (by omega);have HL:=yH hl;clear hl
     go_wp2_with fail
     go_roundw
     case rel=>exact⟨k+1,by have:=HP.out;omega,HIT.out,HB.out,HA2.out HL.out⟩
     case measure=>rw[rZ.out,World.iterPos,HIT.out];have:=HP.out;simp;omega
    have a0:(48:Int)<=(c:Int):=(by omega);have a1:¬(c:Int)<=57:=(by omega);have a2:(97:Int)<=(c:Int):=(by omega);have a3:¬(c:Int)<=122:=(by omega);have a4:(65:Int)<=(c:Int):=(by omega);have a5:¬(c:Int)<=90:=(by omega);have hl:=qH c (by omega) (by omega);have hR:=qG eP c (by omega) W1;cases hh:hasB eP c
    ·rw[hh]at hl hR;have HL:=yH hl;clear hl hh;unfold eP at hR
     go_wp2_with (first|(refine hR.mono ?_;rintro e w1 ⟨rfl,rfl⟩))
     go_ret;exact⟨by show Ending.returned (.int .i64 130)=_;rw[HBAD.out HL.out],HB.out⟩
    ·rw[hh]at hl hR;have HL:=yH hl;clear hl hh;unfold eP at hR
     go_wp2_with (first|(refine hR.mono ?_;rintro e w1 ⟨rfl,rfl⟩))
     go_roundw
     case rel=>exact⟨k+1,by have:=HP.out;omega,HIT.out,HB.out,HA2.out HL.out⟩
     case measure=>rw[rZ.out,World.iterPos,HIT.out];have:=HP.out;simp;omega
   ·have hd:=decode_high s k hp (by omega);have hd2:=decode_le s k;obtain⟨W1,hW1⟩:∃W1,W1=wr.iterAt w.heap.size s (k+(Utf8.decode s k).2):=⟨_,rfl⟩;rw[←hW1]at hnx hb2;have hbad:=BZ k hp (Qa _ (by omega));have HBAD:=yH hbad;have HB:=yH hb2;obtain⟨c,hce⟩:∃c,(Utf8.decode s k).1=c:=⟨_,rfl⟩;rw[hce]at hnx hd hd2;have hd3:(c:Int)<=2147483647:=(by omega);have a0:(48:Int)<=(c:Int):=(by omega);have a1:¬(c:Int)<=57:=(by omega);have a2:(97:Int)<=(c:Int):=(by omega);have a3:¬(c:Int)<=122:=(by omega);have a4:(65:Int)<=(c:Int):=(by omega);have a5:¬(c:Int)<=90:=(by omega);have a7:¬(c:Int)<128:=(by omega);clear hit2 hb2 hbad hW1 hit hb hce
    go_wp2_with fail
    go_ret;exact⟨by show Ending.returned (.int .i64 130)=_;rw[HBAD.out],HB.out⟩
  ·have hnx:∀ty,(Instr.next (.pointer (some ⟨w.heap.size,0,none⟩)) true ty).run Tryz.prog wr=_:=fun ty=>Lib.run_next_end_at wr w.heap.size s k ty hit hp
   have hE:=Qb (s:=s) h0 (by omega) H4.out (fun j hj=>vU.out j hj (by omega));have HE:=yH hE;clear hE hit
   go_wp2_with fail
   go_ret;exact⟨by show Ending.returned (.int .i64 0)=_;rw[HE.out],hb⟩
end Pre

namespace Pre
open Go.RowKit Mem
theorem Zl{w w':World}(h:Below w.drew.heap.size w.drew w'):Below w.heap.size w w':=⟨h.os,h.tape,h.output,h.size,h.block⟩
theorem bel2{w w2 w3:World}(h:Below w.drew.heap.size w.drew w2)(h2:Below w2.heap.size w2 w3):Below w.heap.size w w3:=(Zl h).trans (h2.mono h.size)
def pK(s:ByteArray):Bool:=decide (s.size=32)&&dW.aU s.data.toList
def dP(s:ByteArray):Int:=if pK s=true then 0 else 131
set_option maxRecDepth 20000 in
theorem Lh(s:ByteArray)(w:World) :
 Calls Tryz.prog 84 #[.string s] w fun e w'=>e = .returned (.int .i64 (dP s))/\Below w.heap.size w w':=by
 by_cases hs:s.size=32
 ·have hC:=dW.Zf s hs w;have hs1:((s.size:Nat):Int)=32:=(by omega);by_cases ha:dW.aU s.data.toList=true
  ·have hE:dP s=0:=(by simp[dP,pK,hs,ha]);have hF:dW.qE s.data.toList=0:=(by simp[dW.qE,ha]);rw[hE];clear hE hs
   go_enter Tryz.func84,Tryz.ntmps84
   go_wp2_with (first|(refine hC.mono ?_;rintro e w1 ⟨X,rfl,hb⟩;rw[hF]))
   go_ret;exact⟨rfl,hb⟩
  ·have hE:dP s=131:=(by simp[dP,pK,hs,ha]);have hF:dW.qE s.data.toList=20:=(by simp[dW.qE,ha]);rw[hE];clear hE hs
   go_enter Tryz.func84,Tryz.ntmps84
   go_wp2_with (first|(refine hC.mono ?_;rintro e w1 ⟨X,rfl,hb⟩;rw[hF]))
   go_ret;exact⟨rfl,hb⟩
 ·have hE:dP s=131:=(by simp[dP,pK,hs]);have hs1:¬((s.size:Nat):Int)=32:=(by omega);rw[hE];clear hE hs
  go_enter Tryz.func84,Tryz.ntmps84
  go_wp2_with fail
  go_ret;exact⟨rfl,Below.refl _ _⟩
def bz:ByteArray:=⟨#[47,100,101,112,111,116,47,115,116,111,114,101,47]⟩
def fZ(s:ByteArray):ByteArray:=s.extract 13 s.size
def mW(s:ByteArray):ByteArray:=(fZ s).extract 0 32
def xP(s:ByteArray):ByteArray:=(fZ s).extract 33 (fZ s).size
def eU(s:ByteArray):Bool:=gu s bz&&decide (32<(fZ s).size)&&decide ((fZ s).data.toList[32]? = some 45)
def aF(s:ByteArray):Int:=if eU s=true then(if dP (mW s)=0 then cZ (xP s)else dP (mW s))else 132
def dY(s:ByteArray):Value:=if aF s=0 then .tuple #[.string (mW s),.string (xP s),.int .i64 0]else .tuple #[.string ⟨#[]⟩,.string ⟨#[]⟩,.int .i64 (aF s)]
theorem fG{s:ByteArray}(h:eU s=false):dY s = .tuple #[.string ⟨#[]⟩,.string ⟨#[]⟩,.int .i64 132]:=by
 have:aF s=132:=(by simp[aF,h]);simp[dY,this]
set_option maxRecDepth 20000 in
theorem vV(s:ByteArray)(w:World) :
 Calls Tryz.prog 33 #[.string s] w fun e w'=>e = .returned (dY s)/\Below w.heap.size w w':=by
 have vW:=Le s bz w;cases hh:gu s bz
 ·have hE:=fG (s:=s) (by simp[eU,hh]);have hc:kC s bz = .tuple #[.string s,.bool false]:=(by unfold kC;rw[hh]);rw[hc]at vW;unfold bz at vW;rw[hE];clear hE hc hh
  go_enter Tryz.func33,Tryz.ntmps33
  go_wp2_with (first|(refine vW.mono ?_;rintro e w1 ⟨rfl,rfl⟩))
  go_ret3
  exact⟨rfl,Below.refl _ _⟩
 ·have hc:kC s bz = .tuple #[.string (fZ s),.bool true]:=(by unfold kC;rw[hh];rfl);rw[hc]at vW;unfold bz at vW;obtain⟨R,hR⟩:∃R,fZ s=R:=⟨_,rfl⟩;rw[hR]at vW;have HRR:=yH hR;by_cases h1:32<R.size
  ·have h2:¬(R.size:Int)<=32:=(by omega);have h3:(32:Int)<R.size:=(by omega);have h8:(32:Int)<=R.size:=(by omega);have h9:decide ((R.size:Int)<=32)=false:=decide_eq_false h2;by_cases h4:R[32]=45
   ·have hS:eU s=true:=(by unfold eU;rw[hh,hR,Lb.dm R 32 h1,h4];simp[h1]);have hH:mW s=R.extract 0 32:=(by unfold mW;rw[hR]);have hL:xP s=R.extract 33 R.size:=(by unfold xP;rw[hR]);have Yd:=Lh (R.extract 0 32);have hLC:=rY (R.extract 33 R.size);obtain⟨H,Zm⟩:∃H,R.extract 0 32=H:=⟨_,rfl⟩;obtain⟨L,Zn⟩:∃L,R.extract 33 R.size=L:=⟨_,rfl⟩;rw[Zm]at Yd hH;rw[Zn]at hLC hL;have h5:(33:Int)<=R.size:=(by omega);have hsl1:∀w,(Instr.slice 9 (.string R) none (some (.int .i64 32)) none).run Tryz.prog w = .ok (.string H) w:=fun w=>by
     subst Zm;go_simp
    have hsl2:∀w,(Instr.slice 9 (.string R) (some (.int .i64 33)) none none).run Tryz.prog w = .ok (.string L) w:=fun w=>by
     subst Zn;go_simp
    have h6:((R[32].toNat:Int) != 45)=false:=(by rw[h4];rfl);by_cases hz:dP H=0
    ·have hE:aF s=cZ L:=(by unfold aF;rw[if_pos hS,hH,hL,if_pos hz]);rw[hz]at Yd;by_cases hy:cZ L=0
     ·have Tj:dY s = .tuple #[.string H,.string L,.int .i64 0]:=(by unfold dY;rw[hE,if_pos hy,hH,hL]);rw[hy]at hLC;rw[Tj];clear Tj hy;clear hE hz hS hH hL Zm Zn hR hc hh h4 HRR
      go_enter Tryz.func33,Tryz.ntmps33
      go_wp2_with (first|(refine vW.mono ?_;rintro e w1 ⟨rfl,rfl⟩))
      go_region
      go_wp2_with (first|(refine(Yd _).mono ?_;rintro e w2 ⟨rfl,hb1⟩)|(refine(hLC _).mono ?_;rintro e w3 ⟨rfl,hb2⟩))
      go_ret3
      exact⟨rfl,bel2 hb1 hb2⟩
     ·have Tj:dY s = .tuple #[.string ⟨#[]⟩,.string ⟨#[]⟩,.int .i64 (cZ L)]:=(by unfold dY;rw[hE,if_neg hy]);rw[Tj];generalize cZ L=z at hLC hy ⊢;clear Tj;clear hE hz hS hH hL Zm Zn hR hc hh h4 HRR
      go_enter Tryz.func33,Tryz.ntmps33
      go_wp2_with (first|(refine vW.mono ?_;rintro e w1 ⟨rfl,rfl⟩))
      go_region
      go_wp2_with (first|(refine(Yd _).mono ?_;rintro e w2 ⟨rfl,hb1⟩)|(refine(hLC _).mono ?_;rintro e w3 ⟨rfl,hb2⟩))
      go_ret3
      exact⟨rfl,bel2 hb1 hb2⟩
    ·have hE:aF s=dP H:=(by unfold aF;rw[if_pos hS,hH,if_neg hz]);have Tj:dY s = .tuple #[.string ⟨#[]⟩,.string ⟨#[]⟩,.int .i64 (dP H)]:=(by unfold dY;rw[hE,if_neg hz]);rw[Tj];clear Tj;clear hE;generalize dP H=z at Yd hz ⊢;clear hLC hS hH hL Zm Zn hR hc hh h4 HRR
     go_enter Tryz.func33,Tryz.ntmps33
     go_wp2_with (first|(refine vW.mono ?_;rintro e w1 ⟨rfl,rfl⟩))
     go_region
     go_wp2_with (first|(refine(Yd _).mono ?_;rintro e w2 ⟨rfl,hb1⟩))
     go_ret3
     exact⟨rfl,Zl hb1⟩
   ·have hE:=fG (s:=s) (by simp[eU,hR,Lb.dm R 32 h1,h4]);have h60:¬((R[32].toNat:Int)=45):=fun h=>h4 (UInt8.toNat_inj.mp (by show _=45;omega))
    have h6:((R[32].toNat:Int) != 45)=true:=(by simpa using h60);clear h60;rw[hE];clear hE hc hh hR h4
    go_enter Tryz.func33,Tryz.ntmps33
    go_wp2_with (first|(refine vW.mono ?_;rintro e w1 ⟨rfl,rfl⟩))
    go_ret3
    exact⟨rfl,Below.refl _ _⟩
  ·have h2:(R.size:Int)<=32:=(by omega);have hE:=fG (s:=s) (by simp[eU,hR,h1]);rw[hE];clear hE hc hh hR
   go_enter Tryz.func33,Tryz.ntmps33
   go_wp2_with (first|(refine vW.mono ?_;rintro e w1 ⟨rfl,rfl⟩))
   go_ret3
   exact⟨rfl,Below.refl _ _⟩
end Pre
end Go.Proofs.YtmmmghpimdfleaaGreatDoor
