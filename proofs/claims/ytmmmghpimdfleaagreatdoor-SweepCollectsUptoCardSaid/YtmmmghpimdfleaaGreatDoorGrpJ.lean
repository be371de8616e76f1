/-
  listing.Sum.
  Plain lists: the two hexadecimal digits of each byte.
  La.Hex gives two digits for each byte.
  yw.Make.
  A path that yw.Make makes is one that yw.Parse takes.
  What a store answers, by its records in the order of their paths; of no function of the program.
-/
import Derived.Test.YtmmmghpimdfleaaGreatDoorTk
import Derived.Test.YtmmmghpimdfleaaGreatDoorGrpF
import Derived.Test.YtmmmghpimdfleaaGreatDoorGrpI
import Derived.Test.YtmmmghpimdfleaaGreatDoorProg
import Derived.Test.YtmmmghpimdfleaaGreatDoorGrpA
import Derived.WalkKit
import Derived.Laws.BitsLemmas
import Derived.Deep.RegionHeld3
import Derived.Deep.AppendLies
import Derived.Lib.Hide
import Derived.KernelRfl
import Derived.Test.YtmmmghpimdfleaaGreatDoorGrpE
import Derived.Laws.AppendOwn
import Derived.Laws.AppendOwnNone
set_option linter.unusedVariables false
set_option maxHeartbeats 4000000
namespace Go.Proofs.YtmmmghpimdfleaaGreatDoor
namespace Sum
open Go.RowKit Mem Tr lK jB Name jC wF MH J4
/-- The two tables of sha lie in the world. -/
structure Gl(rc st:Nat->BitVec 32)(w:World):Prop where
 rounds:ku.Rounds rc w
 start:ku.Start st w
theorem Gl.below{rc st:Nat->BitVec 32}{w w':World}(h:Gl rc st w)(hb:Below w.heap.size w w'):Gl rc st w' :=
 ⟨h.rounds.below hb,fun j hj=>(hb.cell (World.block_lt_of_cell? w _ (h.start j hj))).trans (h.start j hj)⟩
def codeOf(T:Tree):Int:=(cO T.kind T.exec T.text T.kids).2.1
def bytesOf(T:Tree):List UInt8:=bG T.kind T.exec T.text T.kids
def nX(rc st:Nat->BitVec 32)(T:Tree):List UInt8:=ku.eX rc st (bytesOf T)
def iw(T:Tree)(kv:Value):Value:=.agg #[.int .i64 T.kind,.bool T.exec,.string T.text,kv]
def E9(rc st:Nat->BitVec 32)(T:Tree):Value :=
 if codeOf T=0 then .tuple #[.agg (Lib.byteCells (nX rc st T)).toArray,.int .i64 ((bytesOf T).length:Nat),.int .i64 0]else .tuple #[.agg (Lib.byteCells (List.replicate 32 0)).toArray,.int .i64 0,.int .i64 (codeOf T)]
theorem rf(rc st:Nat->BitVec 32)(T:Tree):(nX rc st T).length=32:=ku.eu _ _
set_option maxRecDepth 100000 in
theorem I5(rc st:Nat->BitVec 32)(S:Nat->Prop)(T:Tree)(kv:Value)(w:World)(hg:Gl rc st w)(hk:ay S w kv T.kids)(hS:∀i,S i->i<w.heap.size)(hb:T.bulk<=4194304) :
 Calls Tryz.prog 20 #[iw T kv] w fun e w'=>e = .returned (E9 rc st T)/\Below w.heap.size w w':=by
 obtain⟨k,ex,t,ks⟩:=T;have ht:t.size<=4194304:=(by simp only[Tree.bulk]at hb;omega);have hkb:ks.bulk<=4194304:=(by simp only[Tree.bulk]at hb;omega);have hsl:=iR k ex t ks;obtain⟨ao,cap,hkv,hcl,hcm,hel⟩:=id hk;subst hkv;have HV:Hid (E9 rc st ⟨k,ex,t,ks⟩=if(cO k ex t ks).2.1=0 then .tuple #[.agg (Lib.byteCells (ku.eX rc st (bG k ex t ks))).toArray,.int .i64 ((bG k ex t ks).length:Nat),.int .i64 0]else .tuple #[.agg (Lib.byteCells (List.replicate 32 0)).toArray,.int .i64 0,.int .i64 (cO k ex t ks).2.1]):=yH rfl;unfold iw
 go_enter Tryz.func20,Tryz.ntmps20
 go_wp2_with fail;refine ae fun w0 hw0=>?_
 obtain⟨b0,x0,y0⟩:=aQ hw0;clear hw0;have VJ:=b0.size;refine(Ah S k ex t _ ks w0 (hk.below b0) (fun i hi=>by have:=hS i hi;omega) hkb ht).mono ?_;rintro e w1 ⟨rfl,b1⟩;have b1s:=b1.size;have yl:=y0.lt;have y1:=y0.below b1;have Y1:=yH y1;clear y0 y1 x0;have hsv:Ai k ex t ks=if(cO k ex t ks).2.1=0 then .tuple #[.string ⟨(bG k ex t ks).toArray⟩,.int .i64 0]else .tuple #[.string ⟨#[]⟩,.int .i64 (cO k ex t ks).2.1]:=rfl
 rw[hsv];clear hsv;generalize hc:(cO k ex t ks).2.1=c at *;by_cases h0:c=0
 ·subst h0;rw[if_pos rfl]at HV;rw[if_pos (rfl:(0:Int)=0)];have hsz:(⟨(bG k ex t ks).toArray⟩:ByteArray).size=(bG k ex t ks).length:=(by simp[bsize]);have hdat:(⟨(bG k ex t ks).toArray⟩:ByteArray).data.toList=bG k ex t ks:=rfl;obtain⟨X,hX⟩:∃X:ByteArray,(⟨(bG k ex t ks).toArray⟩:ByteArray)=X:=⟨_,rfl⟩;rw[hX]at hsz hdat ⊢;have hxl:X.size<=1099511627776:=(by omega);have Yk:=yH hsz;have HD:=yH hdat;clear hsz hdat hX hsl hc;have hg1:=(hg.below b0).below b1
  go_wp2_with fail;refine(ku.ZQ rc st X _ hg1.rounds hg1.start hxl).mono ?_;rintro e w2 ⟨rfl,b2⟩;rw[HD.out];have Vj:=b2.size;obtain⟨D,hD⟩:∃D,Lib.byteCells (ku.eX rc st (bG k ex t ks))=D:=⟨_,rfl⟩;have hDl:D.length=32:=(by rw[←hD,Lib.byteCells_length];exact ku.eu _ _);have yI:∀v∈D,v.oneCell'=true:=fun v hv=>by
   rw[←hD]at hv;obtain⟨j,_,rfl⟩:=List.mem_map.1 hv;rfl
  rw[hD];have Y2:=yH (Y1.out.below b2);have BV:=yH hD;have lC:=yH hDl;have G5:=yH yI;clear hD hDl yI
  go_wp2_with ((refine wpList_store_mid (by rfl) 29 _ _ (by rfl) (w.heap.size+1) 0 D.toArray (by rfl) (by rfl) ?h4 ?h5 ?h6 ?_;rotate_right))
  case h4=>exact Y2.out.there _ (by rw[show D.toArray.size=32 by rw[List.size_toArray,lC.out]];rfl)
  case h5=>rw[List.size_toArray,lC.out];kernel_rfl
  case h6=>exact all_oneCell_toArray G5.out
  have hfin:(w2.setCells (w.heap.size+1) 0 D).rangeAt (w.heap.size+1) 0 D:=World.rangeAt_setCells_same _ _ _ _ (Y2.out.there _ (by rw[lC.out];rfl));have hlv:=run_loadVar_mid (P:=Tryz.prog) _ (w.heap.size+1) 0 29 D _ hfin Tryz.underlying29 rfl (by rw[lC.out];kernel_rfl);refine bodyPost_ret (v:=.tuple #[.agg D.toArray,.int .i64 (X.size:Nat),.int .i64 0]) (ik Tryz.results20 rfl hlv rfl rfl) rfl ⟨?_,?_⟩
  ·rw[HV.out,←BV.out,Yk.out]
  ·exact((b0.trans (b1.mono VJ)).trans (b2.mono (by omega))).grown (ku.dB _ _ _ _) (by omega) (fun k e=>by have:=Option.some.inj e;omega)
 ·rw[if_neg h0]at HV;rw[if_neg h0];have q:(c != 0)=true:=(by simp[h0]);have hDl:(Lib.byteCells (List.replicate 32 0)).length=32:=rfl;clear h0 hc
  go_wp2_with ((refine wpList_store_mid (by rfl) 29 _ _ (by rfl) (w.heap.size+1) 0 (Lib.byteCells (List.replicate 32 0)).toArray (by rfl) (by rfl) ?h4 ?h5 ?h6 ?_;rotate_right))
  case h4=>exact Y1.out.there _ rfl
  case h5=>kernel_rfl
  case h6=>exact all_oneCell_toArray (fun v hv=>by obtain⟨j,_,rfl⟩:=List.mem_map.1 hv;rfl)
  go_wp2_with fail;have hfin:(w1.setCells (w.heap.size+1) 0 (Lib.byteCells (List.replicate 32 0))).rangeAt (w.heap.size+1) 0 (Lib.byteCells (List.replicate 32 0)):=World.rangeAt_setCells_same _ _ _ _ (Y1.out.there _ rfl);have hlv:=run_loadVar_mid (P:=Tryz.prog) _ (w.heap.size+1) 0 29 (Lib.byteCells (List.replicate 32 0)) _ hfin Tryz.underlying29 rfl (by kernel_rfl);refine bodyPost_ret (v:=.tuple #[.agg (Lib.byteCells (List.replicate 32 0)).toArray,.int .i64 0,.int .i64 c]) (ik Tryz.results20 rfl hlv rfl rfl) rfl ⟨?_,?_⟩
  ·rw[HV.out]
  ·exact(b0.trans (b1.mono VJ)).grown (ku.dB _ _ _ _) (by omega) (fun k e=>by have:=Option.some.inj e;omega)
end Sum

namespace WV
/-- the digit of 0 to 15 -/
def Rk(v:Nat):UInt8:=if v<10 then UInt8.ofNat (48+v)else UInt8.ofNat (87+v)
def two(c:UInt8):List UInt8:=[Rk (c.toNat / 16),Rk (c.toNat % 16)]
def hexL(l:List UInt8):List UInt8:=l.flatMap two
theorem uk(l:List UInt8):(hexL l).length=2*l.length:=by
 induction l with
 | nil=>rfl
 | cons c r ih=>simp[hexL,two]at ih ⊢;omega
theorem Ju(l:List UInt8)(c:UInt8):hexL (l ++ [c])=hexL l++two c:=by simp[hexL]
def digits:List UInt8:=[48,49,50,51,52,53,54,55,56,57,97,98,99,100,101,102]
theorem FH(v:Nat)(h:v<16):digits[v]? = some (Rk v):=by
 have:∀v:Fin 16,digits[v.val]? = some (Rk v.val):=(by decide);exact this ⟨v,h⟩
end WV

namespace Hex
open Go.RowKit WV
theorem infoByte:(Tryz.prog.info? 5).map (fun i=>(i.zero,i.size,i.bytes))=some (some (.int .u8 0),1,1):=by kernel_rfl
theorem wV(v:Nat)(x:Int)(hx:x=v)(h:v<16)(w:World) :
 (Instr.index 9 (.string { data:=#[48,49,50,51,52,53,54,55,56,57,97,98,99,100,101,102] }) (.int .u8 x)).run Tryz.prog w = .ok (.int .u8 ((Rk v).toNat:Int)) w:=by
 subst hx;have h16:(v:Int)<16:=(by omega);have h0:(0:Int)<=v:=(by omega);have hd:=FH v h
 go_simp;have hl:v<digits.length:=(by simpa[digits]using h);rw[List.getElem?_eq_getElem hl]at hd;rw[←Option.some.inj hd];rfl
theorem za9(x:Nat)(h:x<256):bits BinOp.and IntKind.u8 (x:Int) 15=((x % 16:Nat):Int):=by
 have:∀x:Fin 256,bits BinOp.and IntKind.u8 ((x.val:Nat):Int) 15=((x.val % 16:Nat):Int):=(by decide +kernel);exact this ⟨x,h⟩
theorem Rl(c:UInt8):c.toNat<256:=c.toNat_lt
theorem hex(s:ByteArray)(w:World)(hs:s.size<=1073741824) :
 Calls Tryz.prog 68 #[.string s] w fun e w'=>e = .returned (.string ⟨(hexL s.data.toList).toArray⟩)/\Below w.heap.size w w':=by
 obtain⟨i0,hi,hz0,hz1,hz2⟩:=info_parts infoByte
 go_enter Tryz.func68,Tryz.ntmps68
 go_wp2_with (at_make;refine wpList_make_own _ rfl _ _ 108 rfl w.heap.size 5 i0 (.int .u8 0) 1 Tryz.underlying108 hi hz0 hz1 .i64 .i64 _ (2*s.size) rfl rfl ?c1 ?c2 ?c3 ?c4 ?_)
 case c1=>omega
 case c2=>rw[hz2];omega
 case c3=>unfold maxLen;omega
 case c4=>exact Nat.le_refl _
 intro w1 hown hgrow
 go_wp2
 go_loopw [3,4,11] (fun v _ i wr=>∃k:Nat,k<=s.size/\i = .int .i64 k/\wr.ownsRow w.heap.size 5 1 v (2*k) (Lib.byteCells (hexL (s.data.toList.take k)))/\Below w.heap.size w wr) (fun _ _ i _=>s.size-(intOf i).toNat)
 case atStart=>exact⟨0,Nat.zero_le _,rfl,hown,(Below.refl _ _).grown hgrow (Nat.le_refl _) (by simp)⟩
 case round =>
  obtain⟨k,hk,rfl,hrow,hb⟩:=hrel;by_cases hlt:k<s.size
  ·have e0:(0:Int)<=(k:Int):=Int.natCast_nonneg _;have e1:(k:Int)<(s.size:Int):=(by omega);have hc:=Rl s[k];have x1:=wV (s[k].toNat / 16) ((s[k].toNat:Int) / 16) (by omega) (by omega);have x2:=wV (s[k].toNat % 16) (bits BinOp.and IntKind.u8 (s[k].toNat:Int) 15) (za9 _ hc) (by omega);clear hc;have hsz:=hb.size
   go_wp2
   go_region_held3 (fun _=>True) (first|trivial|go_keep) ((refine step_append_lies _ (by rfl) _ _ _ (by rfl) w.heap.size 5 i0 _ 1 1 Tryz.underlying108 hi hz0 hz1 hz2 rfl (by omega) _ (2*k) _ (by rfl) ((hrow.alloc _).drew) ⟨wr.heap.size,0,none⟩ 2 2 [.int .u8 ((Rk (s[k].toNat / 16)).toNat:Int),.int .u8 ((Rk (s[k].toNat % 16)).toNat:Int)] (by rfl) (by rfl) (World.news_of_block (cs:=#[.int .u8 ((Rk (s[k].toNat / 16)).toNat:Int),.int .u8 ((Rk (s[k].toNat % 16)).toNat:Int)]) (t:=5) (fr:=(0,0)) (heap_alloc_new wr _)) (by simp[Value.oneCell']) (by omega) (by unfold maxLen;omega) (by omega) (by simp;omega) (wr.heap.size+1) (by simp) ?_;intro gg cap w1 hown1 hgrow hat hgl))
   go_wp2
   all_goals
    go_roundw
    case rel =>
     refine⟨k+1,by omega,by go_num,?_,?_⟩
     ·rw[Lb.take_snoc s k hlt,Ju,Lib.byteCells_append];exact hown1
     ·exact((hb.alloc (by omega) _).drew).grown hgrow (by simp;omega) (fun j hj=>(hrow.lt j hj).1)
    case measure=>simp[intOf];omega
  ·obtain rfl:k=s.size:=(by omega);have hfull:s.data.toList.take s.size=s.data.toList:=List.take_of_length_le (by simp);have hcv:=Lb.kY (P:=Tryz.prog) Tryz.underlying108 Tryz.underlying5 Tryz.underlying9 (by rw[uk];simp) hrow;have hf:=yH hfull;clear hfull
   go_wp2
   go_ret;exact⟨by rw[hf.out];rfl,hb⟩
end Hex

namespace Make
open Go.RowKit Mem Pre Join WV Go.Proofs.YtmmmghpimdfleaaGreatDoor.Sum
theorem bI:(Tryz.prog.info? 9).map (fun i=>(i.zero,i.size,i.bytes))=some (some (.string ⟨#[]⟩),1,16):=by kernel_rfl
/-- the texts that are joined -/
def parts(refs:List ByteArray)(sum:List UInt8)(label:ByteArray):List ByteArray :=
 ⟨#[116,114,101,101]⟩ :: (refs ++ [⟨#[115,104,97,50,53,54]⟩,⟨(hexL sum).toArray⟩,bz,label])
def jW(rc st:Nat->BitVec 32)(refs:List ByteArray)(sum:List UInt8)(label:ByteArray):ByteArray :=
 ⟨(bz.data.toList++dW.gq (dW.kG (ku.eX rc st (joinL (parts refs sum label))) 20) ++ [45]++label.data.toList).toArray⟩
def bJ(refs:List ByteArray)(label:ByteArray):Int:=if cZ label=0 then bZ refs else cZ label
def kK(rc st:Nat->BitVec 32)(refs:List ByteArray)(sum:List UInt8)(label:ByteArray):Value :=
 if bJ refs label=0 then .tuple #[.string (jW rc st refs sum label),.int .i64 0]else .tuple #[.string ⟨#[]⟩,.int .i64 (bJ refs label)]
set_option maxRecDepth 20000 in
theorem Rn(rc st:Nat->BitVec 32)(v:Value)(refs:List ByteArray)(sum:List UInt8)(label:ByteArray)(w:World)(hr:Texts.Reads w v refs)(hs:sum.length=32)(hz:¬bJ refs label=0) :
 Calls Tryz.prog 21 #[v,.agg (Lib.byteCells sum).toArray,.string label] w fun e w'=>e = .returned (kK rc st refs sum label)/\Below w.heap.size w w':=by
 have hE:kK rc st refs sum label = .tuple #[.string ⟨#[]⟩,.int .i64 (bJ refs label)]:=(by unfold kK;rw[if_neg hz]);rw[hE];clear hE;obtain⟨A,hA⟩:∃A,(Lib.byteCells sum).toArray=A:=⟨_,rfl⟩;rw[hA];clear hA;have hLC:=rY label;by_cases hl:cZ label=0
 ·have hm:bJ refs label=bZ refs:=(by unfold bJ;rw[if_pos hl]);rw[hm]at hz ⊢;rw[hl]at hLC;generalize hz2:bZ refs=z at *;clear hm hl
  go_enter Tryz.func21,Tryz.ntmps21
  go_wp2_with fail;refine ae fun w0 hw0=>?_
  obtain⟨b0,x0⟩:=af hw0;clear hw0 x0;refine(hLC w0).mono ?_;rintro e w1 ⟨rfl,b1⟩;have b01:=b0.trans (b1.mono b0.size);have hr1:=hr.below b01;have yJ:=yD v refs w1 hr1;rw[hz2]at yJ;clear hr hr1 b0 b1 hz2
  go_wp2_with fail;refine yJ.mono ?_;rintro e w2 ⟨rfl,b2⟩
  go_wp2_with fail
  go_ret2;exact⟨rfl,b01.trans (b2.mono b01.size)⟩
 ·have hm:bJ refs label=cZ label:=(by unfold bJ;rw[if_neg hl]);rw[hm];generalize cZ label=z at hLC hl ⊢;clear hm hz
  go_enter Tryz.func21,Tryz.ntmps21
  go_wp2_with fail;refine ae fun w0 hw0=>?_
  obtain⟨b0,x0⟩:=af hw0;clear hw0 x0;refine(hLC w0).mono ?_;rintro e w1 ⟨rfl,b1⟩
  go_wp2_with fail
  go_ret2;exact⟨rfl,b0.trans (b1.mono b0.size)⟩
theorem NZ{w:World}{p:Nat}{l:List UInt8}{A:Array Value}{ty:TypeId}(x:Bx w p A ty)(hA:(Lib.byteCells l).toArray=A)(hl:l.length=32):(convert 108 9 (.slice (some ⟨p,0,none⟩) 32 32)).run Tryz.prog w = .ok (.string ⟨l.toArray⟩) w:=by
 subst hA;have hcv:=run_convert_bytes_arg (P:=Tryz.prog) w 108 5 Tryz.underlying108 Tryz.underlying5 p 0 32 32 (l.map fun b=>(b.toNat:Int)) (by simpa using hl) (fun i hi=>by
  rw[Nat.zero_add,x.cell];have:i<l.length:=(by omega);simp[Lib.byteCells,List.getD,this]) 9 Tryz.underlying9
 rw[Lb.strOfNums_bytes]at hcv;exact hcv
theorem wW{w w':World}{B:Nat}{e:TypeId}{size:Nat}{v:Value}{n:Nat}{xs:List Value}(h:w.ownsRow B e size v n xs)(hb:Below w.heap.size w w'):w'.ownsRow B e size v n xs:=by
 refine⟨h.1,?_⟩;rcases h.2 with h0|⟨g,c,cur,hv,hB,hg,rest⟩
 ·exact .inl h0
 ·exact .inr ⟨g,c,cur,hv,hB,(hb.block g (lt_of_block hg)).trans hg,rest⟩
theorem AB{s:ByteArray}(h:cZ s=0):s.size<=211:=by
 unfold cZ at h;by_cases hk:nH s.data.toList=true
 ·unfold nH at hk;rw[Bool.and_eq_true]at hk;have:=(of_decide_eq_true hk.1).2.1
  simpa using this
 ·rw[if_neg hk]at h;cases h
theorem yY{refs:List ByteArray}{sum:List UInt8}{label:ByteArray}(hr:bZ refs=0)(hl:cZ label=0)(hs:sum.length=32):iC (parts refs sum label)+(parts refs sum label).length<=1048576:=by
 have hn:¬1024<refs.length:=(by intro h;unfold bZ at hr;rw[if_pos h]at hr;cases hr);have hall:∀x∈refs,x.size<=257:=by
  intro x hx;obtain⟨j,hj,he⟩:=List.getElem_of_mem hx;have hb:dS refs j=false:=by
   cases hbb:dS refs j
   ·rfl
   ·rw[oH hn j hj hbb]at hr;cases hr
  unfold dS at hb;rw[List.getElem?_eq_getElem hj,he]at hb;simp only[Bool.or_eq_false_iff,decide_eq_false_iff_not,ne_eq,Classical.not_not]at hb;have hp:=hb.1;unfold aF at hp;by_cases hs:eU x=true
  ·rw[if_pos hs]at hp;by_cases hh:dP (mW x)=0
   ·rw[if_pos hh]at hp;have:=AB hp;unfold xP fZ at this;simp[ByteArray.size_extract]at this;omega
   ·rw[if_neg hh]at hp;exact absurd hp hh
  ·rw[if_neg hs]at hp;cases hp
 have hsum:∀(l:List ByteArray),(∀x∈l,x.size<=257)->iC l<=257*l.length:=by
  intro l
  induction l with
  | nil=>intro _;simp[iC]
  | cons a r ih =>
   intro h;have h1:=h a (by simp);have h2:=ih (fun x hx=>h x (by simp[hx]));simp only[iC,List.length_cons];omega
 have h1:=hsum refs hall;have h2:=AB hl;have h3:(hexL sum).length=64:=(by rw[uk,hs]);unfold parts;simp only[iC,nV,List.length_cons,List.length_append,List.length_nil,bsize,List.size_toArray,h3];have h4:bz.size=13:=rfl;rw[h4];simp;omega
theorem Ro{w W:World}{DL:List UInt8}(z:Array Value)(ty:TypeId)(hz:z.size=32)(hl:DL.length=32)(h:(w.alloc (.cells z ty)).setCells w.heap.size 0 (Lib.byteCells DL)=W) :
 Below w.heap.size w W/\(convert 108 9 (.slice (some ⟨w.heap.size,0,none⟩) 32 32)).run Tryz.prog W = .ok (.string ⟨DL.toArray⟩) W:=by
 subst h;have hx:=Bx.new w z ty;have hfin:((w.alloc (.cells z ty)).setCells w.heap.size 0 (Lib.byteCells DL)).rangeAt w.heap.size 0 (Lib.byteCells DL):=World.rangeAt_setCells_same _ _ _ _ (hx.there _ (by rw[hz,Lib.byteCells_length,hl]));refine⟨((Below.refl _ w).alloc (Nat.le_refl _) _).grown (ku.dB _ _ _ _) (by simp) (fun k e=>by cases e;exact Nat.le_refl _),?_⟩;have hcv:=run_convert_bytes_arg (P:=Tryz.prog) ((w.alloc (.cells z ty)).setCells w.heap.size 0 (Lib.byteCells DL)) 108 5 Tryz.underlying108 Tryz.underlying5 w.heap.size 0 32 32 (DL.map fun b=>(b.toNat:Int)) (by simpa using hl) (fun i hi=>by
  have hi2:i<DL.length:=(by omega);have:=hfin i (.int .u8 (DL[i].toNat:Int)) (by rw[Lb.di,List.getElem?_eq_getElem hi2];rfl);rw[this];simp[List.getD,hi2]) 9 Tryz.underlying9
 rw[Lb.strOfNums_bytes]at hcv;exact hcv
theorem Di{w W:World}{DL:List UInt8}{D:List Value}(z:Array Value)(ty:TypeId)(hD:Lib.byteCells DL=D)(hz:z.size=32)(hl:DL.length=32)(h:(w.alloc (.cells z ty)).setCells w.heap.size 0 D=W) :
 Below w.heap.size w W/\(convert 108 9 (.slice (some ⟨w.heap.size,0,none⟩) 32 32)).run Tryz.prog W = .ok (.string ⟨DL.toArray⟩) W:=by
 subst hD;exact Ro z ty hz hl h
theorem Dj{w:World}{B:Nat}{e:TypeId}{g:Option Addr}{n cap:Nat}{xs:List Value}(h:w.ownsRow B e 1 (.slice g n cap) n xs):n<=cap:=by
 rcases h.2 with⟨h0,h1⟩|⟨g,c,cur,hv,hB,hg,hc,_⟩
 ·cases h0;exact Nat.le_refl _
 ·cases hv;exact hc
theorem Dk(l:List ByteArray):(joinL l).length<=iC l+l.length:=by
 cases l with
 | nil=>simp[joinL]
 | cons x r=>simp only[joinL,List.length_append,qY,iC,List.length_cons];rw[show x.data.toList.length=x.size from Array.length_toList];omega
theorem wX(w:World)(xs:List Value)(hx:xs.length<=1000):(w.alloc (.cells xs.toArray 9)).ownsRow w.heap.size 9 1 (.slice (some ⟨w.heap.size,0,none⟩) xs.length xs.length) xs.length xs:=by
 refine⟨by simp,.inr ⟨w.heap.size,xs.length,xs.toArray,rfl,Nat.le_refl _,heap_alloc_new w _,Nat.le_refl _,by unfold maxLen;omega,by simp,by simp⟩⟩
set_option maxRecDepth 20000 in
theorem Dl(rc st:Nat->BitVec 32)(ad:Addr)(cap:Nat)(refs:List ByteArray)(sum:List UInt8)(label:ByteArray)(w:World)(hg:Gl rc st w)(hr:Texts.Reads w (.slice (some ad) refs.length cap) refs)(hrc:∀j (h:j<refs.length),w.cell? (ad.add j)=some (.string refs[j]))(hs:sum.length=32)(hz:bJ refs label=0) :
 Calls Tryz.prog 21 #[.slice (some ad) refs.length cap,.agg (Lib.byteCells sum).toArray,.string label] w fun e w'=>e = .returned (kK rc st refs sum label)/\Below w.heap.size w w':=by
 have hE:kK rc st refs sum label = .tuple #[.string (jW rc st refs sum label),.int .i64 0]:=(by unfold kK;rw[if_pos hz]);have HM:Hid (jW rc st refs sum label=⟨(bz.data.toList++dW.gq (dW.kG (ku.eX rc st (joinL (parts refs sum label))) 20) ++ [45]++label.data.toList).toArray⟩):=yH rfl;rw[hE];clear hE;generalize jW rc st refs sum label=M at *;have hl:cZ label=0:=by
  unfold bJ at hz;by_cases h:cZ label=0
  ·exact h
  ·rw[if_neg h]at hz;exact hz
 have hre:bZ refs=0:=(by unfold bJ at hz;rw[if_pos hl]at hz;exact hz);have hn1:refs.length<=1024:=by
  unfold bZ at hre;by_cases h:1024<refs.length
  ·rw[if_pos h]at hre;cases hre
  ·omega
 have Kt:=yH (yY hre hl hs);have HLB:=yH (AB hl);obtain⟨i0,hi,hz0,hz1,hz2⟩:=info_parts bI;have hLC:=rY label;rw[hl]at hLC;obtain⟨n,hn⟩:∃n,refs.length=n:=⟨_,rfl⟩;rw[hn]at hr hn1 ⊢;have Hn:=yH hn;have MJ:=yH hrc;have HG:=yH hg;obtain⟨A,hA⟩:∃A,(Lib.byteCells sum).toArray=A:=⟨_,rfl⟩;rw[hA];have HA:=yH hA;have GR:=yH hs;clear hA hs hg hrc hn hz hl
 go_enter Tryz.func21,Tryz.ntmps21
 go_wp2_with fail;refine ae fun w0 hw0=>?_
 obtain⟨b0,x0⟩:=af hw0;clear hw0;refine(hLC w0).mono ?_;rintro e w1 ⟨rfl,b1⟩;have b01:=b0.trans (b1.mono b0.size);have x1:=x0.below b1;have hr1:=hr.below b01;have yJ:=yD _ refs w1 hr1;rw[hre]at yJ;clear hr hr1 b0 b1 hLC hre x0
 go_wp2_with fail;refine yJ.mono ?_;rintro e w2 ⟨rfl,b2⟩;have b02:=b01.trans (b2.mono b01.size);have x2:=x1.below b2;clear yJ b01 b2 x1;have ho1:=wX w2 [.string ⟨#[116,114,101,101]⟩] (by decide);have hnews:∀j u,(refs.map Value.string)[j]? = some u->(w2.alloc (.cells #[.string ⟨#[116,114,101,101]⟩] 9)).cell? (ad.add j)=some u:=fun j u hj=>by
  rw[List.getElem?_map]at hj;rcases h:refs[j]? with _|y
  ·rw[h]at hj;cases hj
  ·rw[h]at hj;cases hj
   obtain⟨hjl,he⟩:=List.getElem?_eq_some_iff.mp h;have h1:=MJ.out j hjl;rw[he]at h1;have h2:=b02.alloc b02.size (.cells #[.string ⟨#[116,114,101,101]⟩] 9);rw[h2.cell (World.block_lt_of_cell? w _ h1)];exact h1
 have bs2:=b02.size;have X2:=yH x2;have B02:=yH b02;clear x2 b02
 go_wp2_with (at_builtin;refine wpList_append_own _ rfl _ _ 27 rfl w2.heap.size 9 i0 (.string ⟨#[]⟩) 1 16 Tryz.underlying27 hi hz0 hz1 hz2 rfl (by decide) _ 1 [.string ⟨#[116,114,101,101]⟩] rfl ho1 ad n cap (refs.map Value.string) rfl (by rw[List.length_map,Nat.mul_one];exact Hn.out) hnews (fun u hu=>by obtain⟨y,_,rfl⟩:=List.mem_map.mp hu;rfl) (by unfold maxLen;omega) (by omega) (by simp) ?_;intro v' w3 hown' hgrow hnil;obtain⟨g',cap',rfl⟩:∃g cap',v' = .slice g (1+n) cap':=(by rcases hown'.2 with⟨h1,h2⟩|⟨g,c,cur,h1,h2⟩;exact absurd h2 (by omega);exact⟨_,_,h1⟩);go_loud (have Rq:Below w2.heap.size w2 w3:=((Below.refl _ w2).alloc (Nat.le_refl _) _).grown hgrow (by simp) (fun k e=>(ho1.lt k e).1);have hcv:=NZ (X2.out.pG Rq X2.out.lt) HA.out GR.out;clear hgrow hnil hnews ho1))
 have N7:=Hex.hex ⟨sum.toArray⟩ w3 (by have:=GR.out;simp[bsize];omega);refine N7.mono ?_;rintro e w4 ⟨rfl,b4⟩;clear N7 hcv;have hown4:=wW hown' b4;obtain⟨X,hX⟩:∃X:ByteArray,(⟨(hexL sum).toArray⟩:ByteArray)=X:=⟨_,rfl⟩;rw[hX];have HX:=yH hX;have hln:=hown4.lt;have WW:=Rq.trans (b4.mono Rq.size);have WX:=WW.size;clear hX hown' Rq b4
 go_wp2_with (at_builtin;refine wpList_append_own _ rfl _ _ 27 rfl w2.heap.size 9 i0 (.string ⟨#[]⟩) 1 16 Tryz.underlying27 hi hz0 hz1 hz2 rfl (by decide) _ (1+n) _ rfl (hown4.alloc (.cells #[.string ⟨#[115,104,97,50,53,54]⟩,.string X,.string bz,.string label] 9)) ⟨w4.heap.size,0,none⟩ 4 4 [.string ⟨#[115,104,97,50,53,54]⟩,.string X,.string bz,.string label] rfl rfl (World.news_of_block (cs:=#[.string ⟨#[115,104,97,50,53,54]⟩,.string X,.string bz,.string label]) (t:=9) (fr:=(0,0)) (heap_alloc_new w4 _)) (fun u hu=>by simp at hu;rcases hu with rfl|rfl|rfl|rfl<;>rfl) (by unfold maxLen;omega) (by omega) (by simp;omega) ?_;intro v' w5 hown5 hgrow hnil;go_loud (obtain⟨g5,cap5,rfl⟩:∃g cap',v' = .slice g (1+n+4) cap':=(by rcases hown5.2 with⟨h1,h2⟩|⟨g,c,cur,h1,h2⟩;exact absurd h2 (by omega);exact⟨_,_,h1⟩);have b25:Below w2.heap.size w2 w5:=(WW.alloc (by omega) _).grown hgrow (by simp;omega) (fun k e=>(hln k e).1);clear hgrow hnil))
 obtain⟨ps,hps⟩:∃ps,parts refs sum label=ps:=⟨_,rfl⟩;have hpl:ps.length=1+n+4:=(by rw[←hps];simp[parts];have:=Hn.out;omega);have hown6:w5.ownsRow w2.heap.size 9 1 (.slice g5 (1+n+4) cap5) ps.length (ps.map Value.string):=by
  rw[hpl,←hps];have:=HX.out;unfold parts;rw[this]
  simpa using hown5
 have N8:=Kt.out;rw[hps]at N8;have hcap:=Dj hown5;refine(Join.TY _ ps w5 (Texts.Reads.bU hown6) (by omega) (by omega) (fun ao n' cap' h=>by cases h;exact hcap)).mono ?_;rintro e w6 ⟨rfl,b6⟩;have WY:=b25.trans (b6.mono b25.size);have Rt:=B02.out.trans (WY.mono B02.out.size);have x6:=X2.out.pG WY X2.out.lt;have hjl:=Dk ps;have Hg:Gl rc st w6:=HG.out.below Rt;have Oa:=yH hps;clear hown5 hown6 N8 hcap b25 b6 hpl hps hown4 hln WW WX hi hz0 hz1 hz2;obtain⟨J,hJ⟩:∃J:ByteArray,(⟨(joinL ps).toArray⟩:ByteArray)=J:=⟨_,rfl⟩;have hJd:J.data.toList=joinL ps:=(by rw[←hJ]);have hJs:J.size<=1099511627776:=(by have h1:J.size=(joinL ps).length:=(by rw[←hJ];simp[bsize]);have h2:=Kt.out;rw[Oa.out]at h2;omega);rw[hJ];have HJD:=yH hJd;have Ob:=Rt.size;clear hjl hJ hJd
 go_wp2_with fail;refine(ku.ZQ rc st J w6 Hg.rounds Hg.start hJs).mono ?_;rintro e w7 ⟨rfl,b7⟩;obtain⟨DL,Ru⟩:∃DL,ku.eX rc st J.data.toList=DL:=⟨_,rfl⟩;have hDl:DL.length=32:=(by rw[←Ru];exact ku.eu _ _);rw[Ru];obtain⟨D,hD⟩:∃D,Lib.byteCells DL=D:=⟨_,rfl⟩;have Oc:D.length=32:=(by rw[←hD,Lib.byteCells_length];exact hDl);have yI:∀v∈D,v.oneCell'=true:=fun v hv=>by
  rw[←hD]at hv;obtain⟨j,_,rfl⟩:=List.mem_map.1 hv;rfl
 rw[hD];have WZ:=Rt.trans (b7.mono Ob);have nN:=yH Ru;have lC:=yH hDl;have HD:=yH hD;have Oe:=yH Oc;have G5:=yH yI;have X6:=yH x6;clear Ru hDl hD Oc yI Hg hJs b7 x6
 go_wp2_with ((refine wpList_store_mid (by rfl) 29 _ _ (by rfl) w7.heap.size 0 D.toArray (by rfl) (by rfl) ?h4 ?h5 ?h6 ?_;rotate_right;refine Mem.named ?_;intro W8 hW8;have ug:=Di _ _ HD.out (by kernel_rfl) lC.out hW8;clear hW8;obtain⟨b8,hcv⟩:=ug))
 case h4=>exact(Bx.new w7 _ _).there _ (by rw[show D.toArray.size=32 by rw[List.size_toArray,Oe.out]];kernel_rfl)
 case h5=>rw[List.size_toArray,Oe.out];kernel_rfl
 case h6=>exact all_oneCell_toArray G5.out
 have Xa:=WZ.trans (b8.mono WZ.size);obtain⟨Y,hY⟩:∃Y:ByteArray,(⟨DL.toArray⟩:ByteArray)=Y:=⟨_,rfl⟩;have hYd:Y.data.toList=DL:=(by rw[←hY]);have hYs:Y.size=32:=(by rw[←hY];simpa[bsize]using lC.out);rw[hY];have HYD:=yH hYd;clear hY hYd hcv b8 WZ Rt Ob WY X6 hn1 bs2;refine(dW.Ti Y hYs W8).mono ?_;rintro e w9 ⟨rfl,b9⟩;have Xb:=Xa.trans (b9.mono Xa.size);have hfl:=dW.qF Y.data.toList 20 (by decide);rw[HYD.out]at hfl ⊢;obtain⟨F,hF⟩:∃F:ByteArray,(⟨(dW.kG DL 20).toArray⟩:ByteArray)=F:=⟨_,rfl⟩;have hFd:F.data.toList=dW.kG DL 20:=(by rw[←hF]);have hFs:F.size=20:=(by rw[←hF];simpa[bsize]using hfl);rw[hF];have HFD:=yH hFd;have PL:=dW.Tf F hFs;clear hF hFd hYs hFs b9 Xa hfl
 go_wp2_with fail;refine(PL w9).mono ?_;rintro e w10 ⟨rfl,b10⟩;have Xc:=Xb.trans (b10.mono Xb.size);clear PL b10 Xb;obtain⟨Z,hZ⟩:∃Z:ByteArray,(⟨(dW.gq F.data.toList).toArray⟩:ByteArray)=Z:=⟨_,rfl⟩;have hZs:Z.size=32:=(by rw[←hZ];simp[bsize,dW.gq,dW.iJ]);rw[hZ];have HZ:=yH hZ;have hZi:((Z.size:Nat):Int)=32:=(by omega);have hlb:=HLB.out;have hlc:¬(46+label.size > 9223372036854775807):=(by omega);clear hZ
 go_wp2_with fail
 go_ret2;refine⟨?_,Xc⟩;show Ending.returned (.tuple #[.string _,.int .i64 0])=_;congr 4;rw[HM.out,Oa.out,←HJD.out,nN.out,←HFD.out];refine congrArg Value.string (Lb.str_eq ?_);have h1:Z.data.toList=dW.gq F.data.toList:=(by rw[←HZ.out]);rw[←h1];simp[bz]
set_option maxRecDepth 20000 in
theorem Rw(rc st:Nat->BitVec 32)(refs:List ByteArray)(hrf:refs = [])(sum:List UInt8)(label:ByteArray)(w:World)(hg:Gl rc st w)(hs:sum.length=32)(hz:bJ refs label=0) :
 Calls Tryz.prog 21 #[.slice none 0 0,.agg (Lib.byteCells sum).toArray,.string label] w fun e w'=>e = .returned (kK rc st refs sum label)/\Below w.heap.size w w':=by
 have hr:Texts.Reads w (.slice none 0 0) refs:=.inl ⟨none,0,hrf,rfl⟩;have hE:kK rc st refs sum label = .tuple #[.string (jW rc st refs sum label),.int .i64 0]:=(by unfold kK;rw[if_pos hz]);have HM:Hid (jW rc st refs sum label=⟨(bz.data.toList++dW.gq (dW.kG (ku.eX rc st (joinL (parts refs sum label))) 20) ++ [45]++label.data.toList).toArray⟩):=yH rfl;rw[hE];clear hE;generalize jW rc st refs sum label=M at *;have hl:cZ label=0:=by
  unfold bJ at hz;by_cases h:cZ label=0
  ·exact h
  ·rw[if_neg h]at hz;exact hz
 have hre:bZ refs=0:=(by unfold bJ at hz;rw[if_pos hl]at hz;exact hz);have hn1:refs.length<=1024:=by
  unfold bZ at hre;by_cases h:1024<refs.length
  ·rw[if_pos h]at hre;cases hre
  ·omega
 have Kt:=yH (yY hre hl hs);have HLB:=yH (AB hl);obtain⟨i0,hi,hz0,hz1,hz2⟩:=info_parts bI;have hLC:=rY label;rw[hl]at hLC;have HRF:=yH hrf;have HG:=yH hg;obtain⟨A,hA⟩:∃A,(Lib.byteCells sum).toArray=A:=⟨_,rfl⟩;rw[hA];have HA:=yH hA;have GR:=yH hs;clear hA hs hg hz hl hrf hn1
 go_enter Tryz.func21,Tryz.ntmps21
 go_wp2_with fail;refine ae fun w0 hw0=>?_
 obtain⟨b0,x0⟩:=af hw0;clear hw0;refine(hLC w0).mono ?_;rintro e w1 ⟨rfl,b1⟩;have b01:=b0.trans (b1.mono b0.size);have x1:=x0.below b1;have hr1:=hr.below b01;have yJ:=yD _ refs w1 hr1;rw[hre]at yJ;clear hr hr1 b0 b1 hLC hre x0
 go_wp2_with fail;refine yJ.mono ?_;rintro e w2 ⟨rfl,b2⟩;have b02:=b01.trans (b2.mono b01.size);have x2:=x1.below b2;clear yJ b01 b2 x1;have ho1:=wX w2 [.string ⟨#[116,114,101,101]⟩] (by decide);have bs2:=b02.size;have X2:=yH x2;have B02:=yH b02;clear x2 b02
 go_wp2_with (at_builtin;refine wpList_append_own_none rfl _ _ 27 rfl w2.heap.size 9 i0 1 Tryz.underlying27 hi _ 1 [.string ⟨#[116,114,101,101]⟩] rfl ho1 rfl ?_;refine Mem.named ?_;intro w3 hw3;go_loud (have hown':w3.ownsRow w2.heap.size 9 1 (.slice (some ⟨w2.heap.size,0,none⟩) 1 1) 1 [.string ⟨#[116,114,101,101]⟩]:=(by rw[←hw3];exact ho1);obtain⟨Rq,xx⟩:=af hw3;clear xx hw3 ho1;have hcv:=NZ (X2.out.pG Rq X2.out.lt) HA.out GR.out))
 have N7:=Hex.hex ⟨sum.toArray⟩ w3 (by have:=GR.out;simp[bsize];omega);refine N7.mono ?_;rintro e w4 ⟨rfl,b4⟩;clear N7 hcv;have hown4:=wW hown' b4;obtain⟨X,hX⟩:∃X:ByteArray,(⟨(hexL sum).toArray⟩:ByteArray)=X:=⟨_,rfl⟩;rw[hX];have HX:=yH hX;have hln:=hown4.lt;have WW:=Rq.trans (b4.mono Rq.size);have WX:=WW.size;clear hX hown' Rq b4
 go_wp2_with (at_builtin;refine wpList_append_own _ rfl _ _ 27 rfl w2.heap.size 9 i0 (.string ⟨#[]⟩) 1 16 Tryz.underlying27 hi hz0 hz1 hz2 rfl (by decide) _ 1 _ rfl (hown4.alloc (.cells #[.string ⟨#[115,104,97,50,53,54]⟩,.string X,.string bz,.string label] 9)) ⟨w4.heap.size,0,none⟩ 4 4 [.string ⟨#[115,104,97,50,53,54]⟩,.string X,.string bz,.string label] rfl rfl (World.news_of_block (cs:=#[.string ⟨#[115,104,97,50,53,54]⟩,.string X,.string bz,.string label]) (t:=9) (fr:=(0,0)) (heap_alloc_new w4 _)) (fun u hu=>by simp at hu;rcases hu with rfl|rfl|rfl|rfl<;>rfl) (by unfold maxLen;omega) (by omega) (by simp;omega) ?_;intro v' w5 hown5 hgrow hnil;go_loud (obtain⟨g5,cap5,rfl⟩:∃g cap',v' = .slice g 5 cap':=(by rcases hown5.2 with⟨h1,h2⟩|⟨g,c,cur,h1,h2⟩;exact absurd h2 (by omega);exact⟨_,_,h1⟩);have b25:Below w2.heap.size w2 w5:=(WW.alloc (by omega) _).grown hgrow (by simp;omega) (fun k e=>(hln k e).1);clear hgrow hnil))
 obtain⟨ps,hps⟩:∃ps,parts refs sum label=ps:=⟨_,rfl⟩;have hpl:ps.length=5:=(by rw[←hps];simp[parts,HRF.out]);have hown6:w5.ownsRow w2.heap.size 9 1 (.slice g5 5 cap5) ps.length (ps.map Value.string):=by
  rw[hpl,←hps];have:=HX.out;unfold parts;rw[this];rw[HRF.out]
  simpa using hown5
 have N8:=Kt.out;rw[hps]at N8;have hcap:=Dj hown5;refine(Join.TY _ ps w5 (Texts.Reads.bU hown6) (by omega) (by omega) (fun ao n' cap' h=>by cases h;exact hcap)).mono ?_;rintro e w6 ⟨rfl,b6⟩;have WY:=b25.trans (b6.mono b25.size);have Rt:=B02.out.trans (WY.mono B02.out.size);have x6:=X2.out.pG WY X2.out.lt;have hjl:=Dk ps;have Hg:Gl rc st w6:=HG.out.below Rt;have Oa:=yH hps;clear hown5 hown6 N8 hcap b25 b6 hpl hps hown4 hln WW WX hi hz0 hz1 hz2;obtain⟨J,hJ⟩:∃J:ByteArray,(⟨(joinL ps).toArray⟩:ByteArray)=J:=⟨_,rfl⟩;have hJd:J.data.toList=joinL ps:=(by rw[←hJ]);have hJs:J.size<=1099511627776:=(by have h1:J.size=(joinL ps).length:=(by rw[←hJ];simp[bsize]);have h2:=Kt.out;rw[Oa.out]at h2;omega);rw[hJ];have HJD:=yH hJd;have Ob:=Rt.size;clear hjl hJ hJd
 go_wp2_with fail;refine(ku.ZQ rc st J w6 Hg.rounds Hg.start hJs).mono ?_;rintro e w7 ⟨rfl,b7⟩;obtain⟨DL,Ru⟩:∃DL,ku.eX rc st J.data.toList=DL:=⟨_,rfl⟩;have hDl:DL.length=32:=(by rw[←Ru];exact ku.eu _ _);rw[Ru];obtain⟨D,hD⟩:∃D,Lib.byteCells DL=D:=⟨_,rfl⟩;have Oc:D.length=32:=(by rw[←hD,Lib.byteCells_length];exact hDl);have yI:∀v∈D,v.oneCell'=true:=fun v hv=>by
  rw[←hD]at hv;obtain⟨j,_,rfl⟩:=List.mem_map.1 hv;rfl
 rw[hD];have WZ:=Rt.trans (b7.mono Ob);have nN:=yH Ru;have lC:=yH hDl;have HD:=yH hD;have Oe:=yH Oc;have G5:=yH yI;have X6:=yH x6;clear Ru hDl hD Oc yI Hg hJs b7 x6
 go_wp2_with ((refine wpList_store_mid (by rfl) 29 _ _ (by rfl) w7.heap.size 0 D.toArray (by rfl) (by rfl) ?h4 ?h5 ?h6 ?_;rotate_right;refine Mem.named ?_;intro W8 hW8;have ug:=Di _ _ HD.out (by kernel_rfl) lC.out hW8;clear hW8;obtain⟨b8,hcv⟩:=ug))
 case h4=>exact(Bx.new w7 _ _).there _ (by rw[show D.toArray.size=32 by rw[List.size_toArray,Oe.out]];kernel_rfl)
 case h5=>rw[List.size_toArray,Oe.out];kernel_rfl
 case h6=>exact all_oneCell_toArray G5.out
 have Xa:=WZ.trans (b8.mono WZ.size);obtain⟨Y,hY⟩:∃Y:ByteArray,(⟨DL.toArray⟩:ByteArray)=Y:=⟨_,rfl⟩;have hYd:Y.data.toList=DL:=(by rw[←hY]);have hYs:Y.size=32:=(by rw[←hY];simpa[bsize]using lC.out);rw[hY];have HYD:=yH hYd;clear hY hYd hcv b8 WZ Rt Ob WY X6 bs2;refine(dW.Ti Y hYs W8).mono ?_;rintro e w9 ⟨rfl,b9⟩;have Xb:=Xa.trans (b9.mono Xa.size);have hfl:=dW.qF Y.data.toList 20 (by decide);rw[HYD.out]at hfl ⊢;obtain⟨F,hF⟩:∃F:ByteArray,(⟨(dW.kG DL 20).toArray⟩:ByteArray)=F:=⟨_,rfl⟩;have hFd:F.data.toList=dW.kG DL 20:=(by rw[←hF]);have hFs:F.size=20:=(by rw[←hF];simpa[bsize]using hfl);rw[hF];have HFD:=yH hFd;have PL:=dW.Tf F hFs;clear hF hFd hYs hFs b9 Xa hfl
 go_wp2_with fail;refine(PL w9).mono ?_;rintro e w10 ⟨rfl,b10⟩;have Xc:=Xb.trans (b10.mono Xb.size);clear PL b10 Xb;obtain⟨Z,hZ⟩:∃Z:ByteArray,(⟨(dW.gq F.data.toList).toArray⟩:ByteArray)=Z:=⟨_,rfl⟩;have hZs:Z.size=32:=(by rw[←hZ];simp[bsize,dW.gq,dW.iJ]);rw[hZ];have HZ:=yH hZ;have hZi:((Z.size:Nat):Int)=32:=(by omega);have hlb:=HLB.out;have hlc:¬(46+label.size > 9223372036854775807):=(by omega);clear hZ
 go_wp2_with fail
 go_ret2;refine⟨?_,Xc⟩;show Ending.returned (.tuple #[.string _,.int .i64 0])=_;congr 4;rw[HM.out,Oa.out,←HJD.out,nN.out,←HFD.out];refine congrArg Value.string (Lb.str_eq ?_);have h1:Z.data.toList=dW.gq F.data.toList:=(by rw[←HZ.out]);rw[←h1];simp[bz]
theorem zba(rc st:Nat->BitVec 32)(v:Value)(refs:List ByteArray)(sum:List UInt8)(label:ByteArray)(w:World)(hg:Gl rc st w)(hr:Texts.Reads w v refs)(hv:∀n cap,v = .slice none n cap->cap=0)(hs:sum.length=32) :
 Calls Tryz.prog 21 #[v,.agg (Lib.byteCells sum).toArray,.string label] w fun e w'=>e = .returned (kK rc st refs sum label)/\Below w.heap.size w w':=by
 by_cases hz:bJ refs label=0
 ·rcases id hr with⟨ao,cap,h1,h2⟩|⟨b,off,cap,h2,hm,hc⟩
  ·cases ao with
   | none =>
    have:=hv _ _ h2;subst this;subst h2;exact Rw rc st refs h1 sum label w hg hs hz
   | some ad =>
    subst h2;subst h1;exact Dl rc st ad cap [] sum label w hg hr (fun j h=>absurd h (Nat.not_lt_zero j)) hs hz
  ·subst h2;refine Dl rc st ⟨b,off,none⟩ cap refs sum label w hg hr (fun j h=>?_) hs hz;have h3:(⟨b,off,none⟩:Addr).add j=⟨b,off+j,none⟩:=(by unfold Addr.add;split<;>simp_all);rw[h3];exact hc j h
 ·exact Rn rc st v refs sum label w hr hs hz
end Make

namespace Xd
open Go.RowKit Mem Pre
open Go.Proofs.YtmmmghpimdfleaaGreatDoor.Make
theorem ext_toList(s:ByteArray)(a b:Nat):(s.extract a b).data.toList=(s.data.toList.drop a).take (b-a):=by
 simp[ByteArray.data_extract,Array.toList_extract,List.extract]
theorem Dp(v:Nat):0<=dW.lX (dW.letter v):=by
 have h:∀i,i<32->0<=dW.lX (dW.letters[i]?.getD 0):=(by decide);exact h (v % 32) (Nat.mod_lt _ (by decide))
theorem FI(l:List UInt8):dW.aU (dW.gq l)=true:=by
 unfold dW.aU dW.gq dW.oF;rw[List.all_eq_true];intro c hc;obtain⟨j,hj,rfl⟩:=List.mem_map.1 hc;rw[if_pos (by omega)];exact decide_eq_true (Dp _)
theorem size_data(s:ByteArray):s.size=s.data.toList.length:=by simp
theorem yZ{a b:ByteArray}(h:a.data.toList=b.data.toList):a=b:=by
 cases a;cases b
 simp at h;rw[h]
section
variable {S B L : List UInt8}
theorem Og(s:ByteArray)(hs:s.data.toList=bz.data.toList++B ++ [45]++L)(hB:B.length=32) :
 gu s bz=true/\(fZ s).data.toList=B ++ [45]++L/\(mW s).data.toList=B/\(xP s).data.toList=L:=by
 have hp:bz.data.toList.length=13:=rfl;have hps:bz.size=13:=rfl;have hsz:s.size=13+(32+(1+L.length)):=(by rw[size_data,hs];simp[hp,hB];omega);have h1:(fZ s).data.toList=B ++ [45]++L:=(by unfold fZ;rw[ext_toList,hs,hsz,List.append_assoc,List.append_assoc,List.drop_left' hp,List.take_of_length_le (by simp[hB];omega)];simp);have hz:(fZ s).size=32+(1+L.length):=(by rw[size_data,h1];simp[hB];omega);refine⟨?_,h1,?_,?_⟩
 ·unfold gu;rw[decide_eq_true_iff,hs,hps,List.append_assoc,List.append_assoc,List.take_left' hp]
 ·unfold mW;rw[ext_toList,h1,List.drop_zero,List.append_assoc,List.take_left' (by simp[hB])]
 ·unfold xP;rw[ext_toList,h1,hz,List.drop_left' (by simp[hB]),List.take_of_length_le (by omega)]
theorem Oh(s:ByteArray)(hs:s.data.toList=bz.data.toList++B ++ [45]++L)(hB:B.length=32)(hA:dW.aU B=true)(hL:cZ ⟨L.toArray⟩=0):aF s=0:=by
 obtain⟨h1,h2,h3,h4⟩:=Og s hs hB;have hz:(fZ s).size=32+(1+L.length):=(by rw[size_data,h2];simp[hB];omega);have hsh:eU s=true:=(by unfold eU;rw[h1,h2,decide_eq_true (show 32<(fZ s).size by omega)];simp[hB]);have hh:dP (mW s)=0:=(by unfold dP pK;rw[h3,hA,decide_eq_true (by rw[size_data,h3,hB]:(mW s).size=32)];rfl);unfold aF;rw[if_pos hsh,if_pos hh];have:xP s=⟨L.toArray⟩:=yZ (by rw[h4]);rw[this];exact hL
end
theorem mM(rc st:Nat->BitVec 32)(refs:List ByteArray)(sum:List UInt8)(label:ByteArray) :
 (jW rc st refs sum label).data.toList=bz.data.toList++dW.gq (dW.kG (ku.eX rc st (Join.joinL (parts refs sum label))) 20) ++ [45]++label.data.toList:=by
 unfold jW;simp
/-- The path that is made is taken. -/
theorem Dq(rc st:Nat->BitVec 32)(refs:List ByteArray)(sum:List UInt8)(label:ByteArray)(hl:cZ label=0):aF (jW rc st refs sum label)=0 :=
 Oh _ (mM rc st refs sum label) (dW.iJ _ _) (FI _) (by rw[show(⟨label.data.toList.toArray⟩:ByteArray)=label from yZ (by simp)];exact hl)
/-- MK under Xe labels of one byte are Xe. -/
theorem Oi(rc st:Nat->BitVec 32)(refs refs':List ByteArray)(sum sum':List UInt8)(a b:UInt8)(hab:a≠b):jW rc st refs sum ⟨#[a]⟩≠jW rc st refs' sum' ⟨#[b]⟩:=by
 intro h;have h1:=mM rc st refs sum ⟨#[a]⟩;have h2:=mM rc st refs' sum' ⟨#[b]⟩;rw[h,h2]at h1;have:=congrArg List.getLast? h1;simp at this;exact hab this.symm
end Xd

namespace aJ
open Go.RowKit Mem Tr Go.Proofs.YtmmmghpimdfleaaGreatDoor.Sum Pre
def bP(rc st:Nat->BitVec 32)(r:Rec):Int :=
 if aF r.path=0 then(if codeOf r.tree=0 then(if r.size=((bytesOf r.tree).length:Nat)then(if r.hash=nX rc st r.tree then bZ r.refs else 131)else 152)else codeOf r.tree)else aF r.path
def has(rs:List Rec)(p:ByteArray):Bool:=(Sp.get Rec.path rs p).isSome
def lacks(rs:List Rec)(r:Rec):Bool:=r.refs.any fun q=>decide (q≠r.path) && !has rs q
def eY(rc st:Nat->BitVec 32)(rs:List Rec)(r:Rec):Int :=
 if bP rc st r=0 then(if lacks rs r=true then 3 else match Sp.get Rec.path rs r.path with
  | some old=>if old=r then 0 else 8
  | none=>0)else bP rc st r
def fM(rc st:Nat->BitVec 32)(rs:List Rec)(r:Rec):List Rec :=
 if eY rc st rs r=0 then(match Sp.get Rec.path rs r.path with
  | some _=>rs
  | none=>Sp.put Rec.path rs r)else rs
/-- What holds of every record of a store. -/
structure Good(rc st:Nat->BitVec 32)(rs:List Rec):Prop where
 rise:Sp.bf Rec.path rs
 valid:∀r∈rs,bP rc st r=0
 closed:∀r∈rs,∀q∈r.refs,has rs q=true
 bulk:∀r∈rs,r.bulk<=4194304
theorem has_of_mem{rs:List Rec}(hr:Sp.bf Rec.path rs){r:Rec}(h:r∈rs):has rs r.path=true:=by
 unfold has;rw[Sp.get_of_mem hr h];rfl
theorem Dt(rc st:Nat->BitVec 32):Good rc st []:=⟨List.Pairwise.nil,fun r h=>(by cases h),fun r h=>(by cases h),fun r h=>(by cases h)⟩
theorem Rx{rs:List Rec}(hr:Sp.bf Rec.path rs){r:Rec}(hn:Sp.get Rec.path rs r.path=none)(p:ByteArray):has (Sp.put Rec.path rs r) p=(decide (p=r.path)||has rs p):=by
 unfold has;rw[Sp.get_put hr hn];by_cases h:p=r.path
 ·rw[if_pos h,decide_eq_true h];rfl
 ·rw[if_neg h,decide_eq_false h];rfl
theorem FK{rc st:Nat->BitVec 32}{rs:List Rec}{r:Rec}(h:eY rc st rs r=0):bP rc st r=0/\lacks rs r=false:=by
 unfold eY at h;by_cases hv:bP rc st r=0
 ·rw[if_pos hv]at h;refine⟨hv,?_⟩;cases hl:lacks rs r
  ·rfl
  ·rw[hl,if_pos rfl]at h;cases h
 ·rw[if_neg hv]at h;exact absurd h hv
theorem Du{rs:List Rec}{r:Rec}(h:lacks rs r=false):∀q∈r.refs,q=r.path∨has rs q=true:=by
 intro q hq;unfold lacks at h;have:=List.any_eq_false.1 h q hq;by_cases e:q=r.path
 ·exact .inl e
 ·refine .inr ?_;cases hh:has rs q
  ·exact absurd (by simp[e,hh]) this
  ·rfl
theorem qL{rc st:Nat->BitVec 32}{rs:List Rec}{r:Rec}(h:Good rc st rs)(hb:r.bulk<=4194304):Good rc st (fM rc st rs r):=by
 unfold fM;by_cases he:eY rc st rs r=0
 ·rw[if_pos he];obtain⟨hv,hl⟩:=FK he;cases hg:Sp.get Rec.path rs r.path with
  | some old=>exact h
  | none =>
   refine⟨Sp.pI h.rise hg,?_,?_,?_⟩
   ·intro x hx;rcases Sp.jo.1 hx with rfl|hx
    ·exact hv
    ·exact h.valid x hx
   ·intro x hx q hq;rw[Rx h.rise hg,Bool.or_eq_true,decide_eq_true_eq];rcases Sp.jo.1 hx with rfl|hx
    ·exact Du hl q hq
    ·exact .inr (h.closed x hx q hq)
   ·intro x hx;rcases Sp.jo.1 hx with rfl|hx
    ·exact hb
    ·exact h.bulk x hx
 ·rw[if_neg he];exact h
theorem Dv(rc st:Nat->BitVec 32)(rs:List Rec)(r:Rec):(fM rc st rs r).length<=rs.length+1:=by
 unfold fM;split
 ·split
  ·omega
  ·rw[Sp.jM];exact Nat.le_refl _
 ·omega
end aJ
end Go.Proofs.YtmmmghpimdfleaaGreatDoor
