/-
  sha.Reset, New.
  sha.Pad.
  sha.Sum, Of.
-/
import Derived.Test.YtmmmghpimdfleaaGreatDoorTk
import Derived.Test.YtmmmghpimdfleaaGreatDoorGrpH
import Derived.Test.YtmmmghpimdfleaaGreatDoorProg
import Derived.Test.YtmmmghpimdfleaaGreatDoorGrpA
import Derived.WalkKit
import Derived.Lib.Hide
import Derived.KernelRfl
set_option linter.unusedVariables false
set_option maxHeartbeats 1000000
namespace Go.Proofs.YtmmmghpimdfleaaGreatDoor
namespace ku
open Go.RowKit
def Start(st:Nat->BitVec 32)(w:World):Prop:=∀j,j<8->w.cell? ⟨0,j,none⟩=some (.int .u32 ((st j).toNat:Int))
def S.zero(st:Nat->BitVec 32):S:={ n:=0,h:=st,b:=fun _=>0,used:=0 }
theorem zs(st:Nat->BitVec 32):((((((((Tryz.zeroCells210.setIfInBounds 1 (Value.int .u32 ((st 0).toNat:Int))).setIfInBounds 2 (Value.int .u32 ((st 1).toNat:Int))).setIfInBounds 3 (Value.int .u32 ((st 2).toNat:Int))).setIfInBounds 4 (Value.int .u32 ((st 3).toNat:Int))).setIfInBounds 5 (Value.int .u32 ((st 4).toNat:Int))).setIfInBounds 6 (Value.int .u32 ((st 5).toNat:Int))).setIfInBounds 7 (Value.int .u32 ((st 6).toNat:Int))).setIfInBounds 8 (Value.int .u32 ((st 7).toNat:Int)))=((List.range 74).map (S.zero st).cf).toArray:=by
 kernel_rfl
theorem NW(s:S)(j:Nat):(s.cf j).oneCell'=true:=by
 unfold S.cf
 (repeat' split)<;>rfl
theorem Is.fresh{p:Nat}{w:World}(s:S)(ht:w.there p 0 74)(hf:∀j,w.frozen? ⟨p,j,none⟩=false):Is p s (w.setCells p 0 ((List.range 74).map s.cf)):=by
 refine⟨fun j hj=>?_,fun j=>?_⟩
 ·have:=World.cell?_setCells_in p ((List.range 74).map s.cf) 0 w (fun j hj=>(ht j (by simpa using hj)).1) j (by simpa using hj)
  simpa using this
 ·rw[World.frozen?_setCells];exact hf j
set_option maxRecDepth 20000 in
theorem reset(st:Nat->BitVec 32)(p:Nat)(w:World)(hs:w.there p 0 74)(hf:∀j,w.frozen? ⟨p,j,none⟩=false)(hst:Start st w) :
 Calls Tryz.prog 149 #[.pointer (some ⟨p,0,none⟩)] w fun e w'=>e = .returned (.tuple #[])/\Is p (S.zero st) w'/\w.grownBy w' (some p):=by
 have s0:=hst 0 (by decide);have s1:=hst 1 (by decide);have s2:=hst 2 (by decide);have s3:=hst 3 (by decide);have s4:=hst 4 (by decide);have s5:=hst 5 (by decide);have s6:=hst 6 (by decide);have s7:=hst 7 (by decide)
 go_enter Tryz.func149,Tryz.ntmps149
 go_wp2_with (refine wpList_store_mid (by rfl) 210 _ _ (by rfl) p 0 _ (by rfl) (by rfl) ?_ ?_ ?_ ?_)
 ·rw[zs,List.size_toArray,List.length_map,List.length_range];exact hs
 ·rw[zs,List.size_toArray,List.length_map,List.length_range];kernel_rfl
 ·rw[zs];exact all_oneCell_toArray (fun v hv=>by
   obtain⟨j,_,rfl⟩:=List.mem_map.1 hv;exact NW _ _)
 ·go_end0;refine⟨rfl,?_,dB p _ _ _⟩;have hz:=congrArg Array.toList (zs st);simp only[Array.toList_setIfInBounds]at hz;rw[hz];exact Is.fresh _ hs hf
end ku

namespace ku
open Go.RowKit
def eF(n:Nat):Nat:=(119-n % 64) % 64
def oP(n i:Nat):UInt8:=UInt8.ofNat ((n*8 / 2 ^ (8*i)) % 256)
/-- The row behind k of the eight bytes of the length. -/
def qg(n k:Nat):List UInt8:=(List.range (9+eF n)).map fun j=>if j=0 then 128 else if 9+eF n<=j+k then oP n (8+eF n-j)else 0
def pad(n:Nat):List UInt8:=qg n 8
theorem iY(n k:Nat):(qg n k).length=9+eF n:=by simp[qg]
theorem NY(n k:Nat)(hk:k<8):(qg n k).set (8+eF n-k) (oP n k)=qg n (k+1):=by
 refine List.ext_getElem (by simp[qg]) (fun j h1 h2=>?_);rw[List.getElem_set];simp only[qg,List.getElem_map,List.getElem_range];by_cases h:8+eF n-k=j
 ·rw[if_pos h,if_neg (by omega),if_pos (by omega),show 8+eF n-j=k by omega]
 ·rw[if_neg h];by_cases h0:j=0
  ·rw[if_pos h0,if_pos h0]
  ·rw[if_neg h0,if_neg h0];by_cases h3:9+eF n<=j+k
   ·rw[if_pos h3,if_pos (by omega)]
   ·rw[if_neg h3,if_neg (by omega)]
theorem CG(n k:Nat):((oP n k).toNat:Int)=(n:Int)*8 / 2 ^ (8*k) % 256:=by
 unfold oP;rw[UInt8.toNat_ofNat_of_lt' (by show _<256;omega)];simp
theorem Js(n:Nat):(List.replicate (9+eF n) (0:UInt8)).set 0 128=qg n 0:=by
 refine List.ext_getElem (by simp[qg]) (fun j h1 h2=>?_);rw[List.getElem_set];simp only[qg,List.getElem_map,List.getElem_range,List.getElem_replicate];simp only[List.length_set,List.length_replicate]at h1;by_cases h:0=j
 ·rw[if_pos h,if_pos h.symm]
 ·rw[if_neg h,if_neg (fun e=>h e.symm),if_neg (by omega)]
theorem Jt:(Tryz.prog.info? 5).map (fun i=>(i.zero,i.size,i.bytes))=some (some (.int .u8 0),1,1):=by kernel_rfl
set_option maxRecDepth 20000 in
theorem VC(n:Nat)(w:World)(hn:n<=1099511627776) :
 Calls Tryz.prog 151 #[.int .i64 (n:Int)] w fun e w'=>e = .returned (.string ⟨(pad n).toArray⟩)/\Below w.heap.size w w':=by
 obtain⟨i0,hi,hz0,hz1,hz2⟩:=info_parts Jt;have hz:eF n<64:=Nat.mod_lt _ (by decide);have e0:(0:Int)<=(n:Int):=(by omega);have e1:¬(n:Int)<0:=(by omega);obtain⟨M,hM⟩:∃M,9+eF n=M:=⟨_,rfl⟩;have zz:(119-(n:Int)) % 64=((M:Int)-9):=(by unfold eF at hM;omega);have em:1+((M:Int)-9)+8=(M:Int):=(by omega);have m1:9<=M:=(by omega);have m2:M<73:=(by omega);have Em:=yH em;have HM:=yH hM;clear em hM hz
 go_enter Tryz.func151,Tryz.ntmps151
 go_wp2_with (at_make;refine wpList_make_full _ rfl _ _ 108 rfl w.heap.size 5 i0 (.int .u8 0) 1 Tryz.underlying108 hi hz0 hz1 .i64 .i64 _ _ M rfl rfl ?c1 ?c2 ?c3 ?c4 ?c5 ?_)
 case c1=>have:=Em.out;omega
 case c2=>have:=Em.out;omega
 case c3=>omega
 case c4=>unfold maxLen;omega
 intro w1 hown hgrow;have hown0:w1.ownsRow w.heap.size 5 1 (.slice (some ⟨w.heap.size,0,none⟩) M M) M (Lib.byteCells (List.replicate M 0)):=by
  rw[toList_madeCells_one]at hown
  simpa[Lib.byteCells]using hown
 clear hown;have f0:w1.frozen? ⟨w.heap.size,0,none⟩=false:=hown0.frozenAt _;have p0:w1.cell? ⟨w.heap.size,0,none⟩=some (.int .u8 0):=(by rw[hown0.cellAt _ (by omega),Lb.di,List.getElem?_replicate,if_pos (by omega)];rfl);have g1:(0:Int)<(M:Int):=(by omega);have hrow0:=(hown0.stored 0 (.int .u8 (((128:UInt8).toNat:Nat):Int))).1;rw[Lb.dM,←HM.out,Js,HM.out]at hrow0;have hb0:Below w.heap.size w (w1.setCell ⟨w.heap.size,0,none⟩ (.int .u8 128)):=((Below.refl _ _).grown hgrow (Nat.le_refl _) (by simp)).setCell (p:=⟨w.heap.size,0,none⟩) (Nat.le_refl _) _;have Hr:=yH hrow0;have Hb:=yH hb0;clear hrow0 hb0 hown0 hgrow
 go_wp2_with fail
 go_loopw [22] (fun i wr=>∃k:Nat,k<=8/\i = .int .i64 k/\wr.ownsRow w.heap.size 5 1 (.slice (some ⟨w.heap.size,0,none⟩) M M) M (Lib.byteCells (qg n k))/\Below w.heap.size w wr) (fun i _=>8-(intOf i).toNat)
 case atStart=>exact⟨0,by omega,rfl,Hr.out,Hb.out⟩
 case round =>
  obtain⟨k,hk,rfl,hrow,hb⟩:=hrel;by_cases hlt:k<8
  ·have k0:(0:Int)<=(k:Int):=Int.natCast_nonneg _;have k1:(k:Int)<8:=(by omega);have qx:IntKind.i64.wrap ((M:Int)-1-(k:Int))=((M-1-k:Nat):Int):=(by rw[IntKind.wrap_i64];omega);have qb:((M-1-k:Nat):Int)<(M:Int):=(by omega);have f1:wr.frozen? ⟨w.heap.size,M-1-k,none⟩=false:=hrow.frozenAt _;have hpl:(qg n k).length=M:=(by rw[iY];exact HM.out);have p1:wr.cell? ⟨w.heap.size,M-1-k,none⟩=some (.int .u8 (((qg n k)[M-1-k]?.getD 0).toNat:Int)):=(by rw[hrow.cellAt _ (by omega),Lb.di,List.getElem?_eq_getElem (by rw[hpl];omega)];rfl);clear hpl
   go_wp2_with fail
   go_roundw
   case rel =>
    refine⟨k+1,by omega,by go_num,?_,hb.setCell (p:=⟨w.heap.size,M-1-k,none⟩) (Nat.le_refl _) _⟩;have h1:=(hrow.stored (M-1-k) (.int .u8 ((oP n k).toNat:Int))).1;have hx:M-1-k=8+eF n-k:=(by have:=HM.out;omega);rw[Lb.dM,show(qg n k).set (M-1-k) (oP n k)=qg n (k+1) by rw[hx,NY n k hlt],CG]at h1;exact h1
   case measure=>simp[intOf];omega
  ·obtain rfl:k=8:=(by omega);have hcv:=Lb.kY (P:=Tryz.prog) Tryz.underlying108 Tryz.underlying5 Tryz.underlying9 (by rw[iY];exact HM.out.symm) hrow
   go_wp2
   go_ret;exact⟨rfl,hb⟩
end ku

namespace ku
open Go.RowKit Mem
def S.sum(rc:Nat->BitVec 32)(s:S):List UInt8:=(List.range 32).map fun j=>UInt8.ofNat ((((s.wrote rc (pad s.n)).h (j / 4)).toNat / 2 ^ (24-8*(j % 4))) % 256)
def eX(rc st:Nat->BitVec 32)(l:List UInt8):List UInt8:=((S.zero st).wrote rc l).sum rc
theorem eu(rc:Nat->BitVec 32)(s:S):(s.sum rc).length=32:=by simp[S.sum]
theorem Aw{P:Program}(t e:TypeId)(h:Nat->BitVec 32)(k:Nat)(hk:k<8)(hu:P.underlying t=some (.array 8 e))(hs:(P.info? e).map (·.size)=some 1)(ha:P.underlying e=some (.int .u32))(w:World) :
 (Instr.index t (.agg (hc h).toArray) (.int .i64 (k:Int))).run P w = .ok (.int .u32 ((h k).toNat:Int)) w:=by
 cases hq:P.info? e with
 | none=>simp[hq]at hs
 | some j =>
  have h1:j.size=1:=(by simpa[hq]using hs);have hb:(0:Int)<=(k:Int)/\(k:Int)<((8:Nat):Int):=(by omega);have hg:=pM h k hk;simp[Instr.index,run_underlying hu,asIntOf,sizeOf,typeInfo,hq,h1,part,isAgg,run_underlying ha,hg];omega
/-- the sum behind k of the eight rounds -/
def dF(rc:Nat->BitVec 32)(s:S)(k:Nat):List UInt8:=(List.range 32).map fun j=>if j<4*k then(s.sum rc)[j]?.getD 0 else 0
theorem Az:Tryz.zeroCells210.size=74:=by kernel_rfl
theorem copied{w W1:World}{s:S}{L:List Value}(hL:(List.range 74).map s.cf=L)(z:Array Value)(t:TypeId)
 (h:((w.alloc (.cells z t)).alloc (.cells Tryz.zeroCells210 210)).setCells (w.heap.size+1) 0 L=W1) :
 Is (w.heap.size+1) s W1/\Below w.heap.size w W1/\Bx W1 w.heap.size z t/\W1.heap.size=w.heap.size+2:=by
 subst h;subst hL;have hn:=Bx.new (w.alloc (.cells z t)) Tryz.zeroCells210 210;rw[World.size_alloc]at hn;have hg:=dB (w.heap.size+1) ((List.range 74).map s.cf) 0 ((w.alloc (.cells z t)).alloc (.cells Tryz.zeroCells210 210));have hz:∀(vs:List Value) (o:Nat) (W:World),(W.setCells (w.heap.size+1) o vs).heap.size=W.heap.size:=by
  intro vs
  induction vs with
  | nil=>intro o W;rfl
  | cons v r ih=>intro o W;rw[World.setCells,ih,World.size_setCell]
 refine⟨Is.fresh s (fun j hj=>⟨?_,?_⟩) (fun j=>?_),?_,?_,?_⟩
 ·rw[hn.cell,Nat.zero_add,Array.getElem?_eq_getElem (by rw[Az];exact hj)];rfl
 ·exact hn.frozen _
 ·exact hn.frozen _
 ·exact(((Below.refl _ w).alloc (Nat.le_refl _) _).alloc (by simp) _).grown hg (by simp;omega) (fun k e=>by cases e;omega)
 ·refine((Bx.new w z t).alloc (.cells Tryz.zeroCells210 210)).kept ?_;exact hg.block _ (by simp;omega) (by simp)
 ·rw[hz];simp
theorem yV(w:World)(cs:Array Value)(t:TypeId){W:World}(hW:W=w.alloc (.cells cs t))(b:Nat)(hb:b=w.heap.size)(n:Nat)(hn:cs.size=n):W.there b 0 n:=by
 subst hW;subst hb;subst hn;exact fun j hj=>⟨by rw[(Bx.new w cs t).cell,Nat.zero_add,Array.getElem?_eq_getElem hj];rfl,(Bx.new w cs t).frozen _⟩
/-- The bytes of the sum. -/
theorem Rf(rc:Nat->BitVec 32)(s:S)(j:Nat)(hj:j<32):(s.sum rc)[j]? = some (UInt8.ofNat ((((s.wrote rc (pad s.n)).h (j / 4)).toNat / 2 ^ (24-8*(j % 4))) % 256)):=by
 simp[S.sum,hj]
theorem yX(rc:Nat->BitVec 32)(s:S)(k:Nat):(dF rc s k).length=32:=by simp[dF]
theorem Rh(rc:Nat->BitVec 32)(s:S):dF rc s 0=List.replicate 32 0:=by
 refine List.ext_getElem (by simp[dF]) (fun j h1 h2=>?_);rw[List.getElem_replicate];simp[dF]
theorem Ri(rc:Nat->BitVec 32)(s:S):dF rc s 8=s.sum rc:=by
 refine List.ext_getElem (by simp[dF,S.sum]) (fun j h1 h2=>?_);have:j<32:=(by simpa[eu]using h2);simp only[dF,List.getElem_map,List.getElem_range];rw[if_pos (by omega),List.getElem?_eq_getElem h2];rfl
theorem Rj(rc:Nat->BitVec 32)(s:S)(k:Nat)(hk:k<8)(x:Nat)(hx:((s.wrote rc (pad s.n)).h k).toNat=x) :
 ((((dF rc s k).set (4*k) (UInt8.ofNat (x / 16777216 % 256))).set (4*k+1) (UInt8.ofNat (x / 65536 % 256))).set (4*k+2) (UInt8.ofNat (x / 256 % 256))).set (4*k+3) (UInt8.ofNat (x % 256))=dF rc s (k+1):=by
 refine List.ext_getElem (by simp[dF]) (fun j h1 h2=>?_);have hj:j<32:=(by simpa[yX]using h2);simp only[List.getElem_set,dF,List.getElem_map,List.getElem_range];have hg:=Rf rc s j hj;by_cases a3:4*k+3=j
 ·subst a3;rw[if_pos rfl,if_pos (by omega),hg,show(4*k+3) / 4=k by omega,show 24-8*((4*k+3) % 4)=0 by omega,hx];simp
 rw[if_neg a3];by_cases a2:4*k+2=j
 ·subst a2;rw[if_pos rfl,if_pos (by omega),hg,show(4*k+2) / 4=k by omega,show 24-8*((4*k+2) % 4)=8 by omega,hx];simp
 rw[if_neg a2];by_cases a1:4*k+1=j
 ·subst a1;rw[if_pos rfl,if_pos (by omega),hg,show(4*k+1) / 4=k by omega,show 24-8*((4*k+1) % 4)=16 by omega,hx];simp
 rw[if_neg a1];by_cases a0:4*k=j
 ·subst a0;rw[if_pos rfl,if_pos (by omega),hg,show(4*k) / 4=k by omega,show 24-8*((4*k) % 4)=24 by omega,hx];simp
 rw[if_neg a0];by_cases hlt:j<4*k
 ·rw[if_pos hlt,if_pos (by omega)]
 ·rw[if_neg hlt,if_neg (by omega)]
set_option maxRecDepth 20000 in
theorem I5(rc:Nat->BitVec 32)(p:Nat)(s:S)(w:World)(hs:Is p s w)(hr:Rounds rc w)(hp:1<p)(hu:s.used<64)(hn:s.n<=1099511627776) :
 Calls Tryz.prog 113 #[.pointer (some ⟨p,0,none⟩)] w fun e w'=>e = .returned (.agg (Lib.byteCells (s.sum rc)).toArray)/\Below w.heap.size w w':=by
 have zeI:=hs.lt;have hrange:w.rangeAt p 0 ((List.range 74).map s.cf):=fun j v hj=>by
  have hl:j<74:=(by have:=(List.getElem?_eq_some_iff.1 hj).1;simpa using this);rw[Nat.zero_add,hs.cell j hl,←hj];simp[hl]
 obtain⟨L,hL⟩:∃L,(List.range 74).map s.cf=L:=⟨_,rfl⟩;have Me:L.length=74:=(by rw[←hL];simp);have hLo:∀v∈L,v.oneCell'=true:=fun v hv=>by
  rw[←hL]at hv;obtain⟨j,_,rfl⟩:=List.mem_map.1 hv;exact NW _ _
 rw[hL]at hrange;have HL:=yH hL;have HLl:=yH Me;have HLo:=yH hLo;clear hL Me hLo
 go_enter Tryz.func113,Tryz.ntmps113
 go_wp2_with (first|(refine wpList_load_mid rfl 210 _ (by rfl) p 0 (by rfl) L _ (World.rangeAt_alloc hrange _) Tryz.underlying210 rfl ?hlen ?_)|(refine wpList_store_mid (by rfl) 210 _ _ (by rfl) (w.heap.size+1) 0 L.toArray (by rfl) (by rfl) ?h1 ?h2 ?h3 ?_;rotate_right;refine Mem.named ?_;intro W1 hW1;obtain⟨WU,b1,x1,z1⟩:=copied (w:=w) HL.out _ _ hW1;clear hW1;have Z1:=yH z1;clear z1;have c0:=WU.n))
 case hlen=>rw[HLl.out];kernel_rfl
 case h1 =>
  have e:L.toArray.size=74:=(by rw[List.size_toArray,HLl.out]);rw[e];refine yV _ _ _ rfl _ ?_ _ Az;exact(World.size_alloc _ _).symm
 case h2=>rw[List.size_toArray,HLl.out];kernel_rfl
 case h3=>exact all_oneCell_toArray HLo.out
 refine(VC s.n _ hn).mono ?_;rintro e w2 ⟨rfl,b2⟩;have Yw:=WU.below b2
 go_wp2_with fail;have hr2:Rounds rc w2:=fun j hj=>(b2.cell (World.block_lt_of_cell? _ _ ((b1.cell (p:=⟨1,j,none⟩) (by show 1<_;omega)).trans (hr j hj)))).trans ((b1.cell (p:=⟨1,j,none⟩) (by show 1<_;omega)).trans (hr j hj))
 have hpl:(pad s.n).length<=100:=(by unfold pad;rw[iY];have:=Nat.mod_lt (119-s.n % 64) (show 0<64 by decide);unfold eF;omega);refine(yU rc (w.heap.size+1) s ⟨(pad s.n).toArray⟩ _ Yw hr2 (by omega) hu (by simp[ByteArray.size];omega)).mono ?_;rintro e w3 ⟨rfl,is3,g3⟩;have hgn:∀k,k<8->((s.wrote rc (pad s.n)).h k).toNat=((s.wrote rc (pad s.n)).h k).toNat:=fun _ _=>rfl
 have hlt3:w.heap.size+1<w3.heap.size:=is3.lt;have hbw3:Below w.heap.size w w3:=(b1.trans (b2.mono b1.size)).grown g3 (by have:=Yw.lt;omega) (fun k e=>by cases e;omega);have x3:=(x1.below b2).kept (w':=w3) (g3.block _ (by have:=Yw.lt;omega) (by simp));have hhr:=is3.hr;generalize hh:(s.wrote rc (pad s.n)).h=h at *;have Hh:=yH hh;clear hh hgn hrange HL HLl HLo hs hr hr2 hpl c0 Z1 WU Yw is3 b1 b2 x1 g3
 go_wp2_with (refine wpList_load_mid rfl 208 _ (by rfl) (w.heap.size+1) 1 (by rfl) (hc h) _ (World.rangeAt_alloc hhr _) Tryz.underlying208 rfl ?hlen ?_)
 case hlen=>rw[dH];kernel_rfl
 go_loopw [17,5,6] (fun i _ _ wr=>∃k:Nat,k<=8/\i = .int .i64 k/\Bx wr w3.heap.size (Lib.byteCells (dF rc s k)).toArray 29/\Below w3.heap.size w3 wr) (fun i _ _ _=>8-(intOf i).toNat)
 case atStart=>exact⟨0,by omega,rfl,by rw[Rh];exact Bx.new _ _ _,(Below.refl _ _).alloc (Nat.le_refl _) _⟩
 case round =>
  obtain⟨k,hk,rfl,hbx,hb⟩:=hrel;by_cases hlt:k<8
  ·have k0:(0:Int)<=(k:Int):=Int.natCast_nonneg _;have k1:(k:Int)<8:=(by omega);have hix:=Aw (P:=Tryz.prog) 208 207 h k hlt Tryz.underlying208 (by kernel_rfl) Tryz.underlying207;obtain⟨F,hF⟩:∃F,dF rc s k=F:=⟨_,rfl⟩;have J5:F.length=32:=(by rw[←hF,yX]);rw[hF]at hbx;have cel:∀j,j<32->∃z:Int,wr.cell? ⟨w3.heap.size,j,none⟩=some (.int .u8 z):=fun j hj=>⟨((F[j]'(by omega)).toNat:Int),by rw[hbx.cell];simp[Lib.byteCells,J5,hj]⟩
   obtain⟨z0,p0⟩:=cel (4*k) (by omega);obtain⟨z1,p1⟩:=cel (4*k+1) (by omega);obtain⟨z2,p2⟩:=cel (4*k+2) (by omega);obtain⟨z3,p3⟩:=cel (4*k+3) (by omega);have f0:=hbx.frozen (4*k);have f1:=hbx.frozen (4*k+1);have f2:=hbx.frozen (4*k+2);have f3:=hbx.frozen (4*k+3);have HF:=yH hF;have HFl:=yH J5;clear hF J5 cel
   go_wp2_with fail
   go_roundw
   case rel =>
    refine⟨k+1,by omega,by go_num,?_,(((hb.setCell (p:=⟨w3.heap.size,4*k,none⟩) (Nat.le_refl _) _).setCell (p:=⟨w3.heap.size,4*k+1,none⟩) (Nat.le_refl _) _).setCell (p:=⟨w3.heap.size,4*k+2,none⟩) (Nat.le_refl _) _).setCell (p:=⟨w3.heap.size,4*k+3,none⟩) (Nat.le_refl _) _⟩;have hx:=(h k).isLt;have y0:(((h k).toNat:Int) / 16777216)=((UInt8.ofNat ((h k).toNat / 16777216 % 256)).toNat:Int):=(by rw[UInt8.toNat_ofNat_of_lt' (by show _<256;omega)];omega);have y1:(((h k).toNat:Int) / 65536 % 256)=((UInt8.ofNat ((h k).toNat / 65536 % 256)).toNat:Int):=(by rw[UInt8.toNat_ofNat_of_lt' (by show _<256;omega)];omega);have y2:(((h k).toNat:Int) / 256 % 256)=((UInt8.ofNat ((h k).toNat / 256 % 256)).toNat:Int):=(by rw[UInt8.toNat_ofNat_of_lt' (by show _<256;omega)];omega);have y3:(((h k).toNat:Int) % 256)=((UInt8.ofNat ((h k).toNat % 256)).toNat:Int):=(by rw[UInt8.toNat_ofNat_of_lt' (by show _<256;omega)];omega);rw[y0,y1,y2,y3];have hq:=(((hbx.set (4*k) (.int .u8 ((UInt8.ofNat ((h k).toNat / 16777216 % 256)).toNat:Int))).set (4*k+1) (.int .u8 ((UInt8.ofNat ((h k).toNat / 65536 % 256)).toNat:Int))).set (4*k+2) (.int .u8 ((UInt8.ofNat ((h k).toNat / 256 % 256)).toNat:Int))).set (4*k+3) (.int .u8 ((UInt8.ofNat ((h k).toNat % 256)).toNat:Int));rw[List.setIfInBounds_toArray,List.setIfInBounds_toArray,List.setIfInBounds_toArray,List.setIfInBounds_toArray,Lb.dM,Lb.dM,Lb.dM,Lb.dM,←HF.out,Rj rc s k hlt _ (by rw[Hh.out])]at hq;exact hq
   case measure=>simp[intOf];omega
  ·obtain rfl:k=8:=(by omega);rw[Ri]at hbx;obtain⟨D,hD⟩:∃D,Lib.byteCells (s.sum rc)=D:=⟨_,rfl⟩;have hDl:D.length=32:=(by rw[←hD,Lib.byteCells_length,eu]);have yI:∀v∈D,v.oneCell'=true:=fun v hv=>by
    rw[←hD]at hv;obtain⟨j,_,rfl⟩:=List.mem_map.1 hv;rfl
   rw[hD]at hbx;have Ye:wr.rangeAt w3.heap.size 0 D:=fun j v hj=>by rw[Nat.zero_add,hbx.cell];simpa using hj
   have x8:=x3.pG hb (by omega);have hb8:=hbw3.trans (hb.mono (by omega));have HD:=yH hD;have lC:=yH hDl;have G5:=yH yI;have X8:=yH x8;clear hD hDl yI x8 x3 hbx
   go_wp2_with (first|(refine wpList_load_mid rfl 29 _ (by rfl) w3.heap.size 0 (by rfl) D _ Ye Tryz.underlying29 rfl ?hlen2 ?_)|(refine wpList_store_mid (by rfl) 29 _ _ (by rfl) w.heap.size 0 D.toArray (by rfl) (by rfl) ?h4 ?h5 ?h6 ?_;rotate_right))
   case hlen2=>rw[lC.out];kernel_rfl
   case h4 =>
    have e:D.toArray.size=32:=(by rw[List.size_toArray,lC.out]);rw[e];intro j hj;refine⟨?_,X8.out.frozen _⟩;rw[X8.out.cell,Nat.zero_add,Array.getElem?_eq_getElem (by simpa using hj)];rfl
   case h5=>rw[List.size_toArray,lC.out];kernel_rfl
   case h6=>exact all_oneCell_toArray G5.out
   have hfin:(wr.setCells w.heap.size 0 D).rangeAt w.heap.size 0 D:=World.rangeAt_setCells_same _ _ _ _ (by rw[lC.out];intro j hj;exact⟨by rw[X8.out.cell,Nat.zero_add,Array.getElem?_eq_getElem (by simpa using hj)];rfl,X8.out.frozen _⟩);have hlv:=run_loadVar_mid (P:=Tryz.prog) _ w.heap.size 0 29 D _ hfin Tryz.underlying29 rfl (by rw[lC.out];kernel_rfl);refine bodyPost_ret (v:=.agg D.toArray) (ai Tryz.results113 rfl hlv) rfl ⟨by rw[HD.out],?_⟩;exact hb8.grown (dB _ _ _ _) (by have:=hb.size;omega) (fun k e=>by cases e;exact Nat.le_refl _)
set_option maxRecDepth 20000 in
theorem new(st:Nat->BitVec 32)(w:World)(hst:Start st w) :
 Calls Tryz.prog 111 #[] w fun e w'=>e = .returned (.pointer (some ⟨w.heap.size,0,none⟩))/\Is w.heap.size (S.zero st) w'/\Below w.heap.size w w':=by
 have hst1:Start st (w.alloc (.cells Tryz.zeroCells210 210)):=fun j hj=>by
  rw[World.cell?_alloc_lt _ _ _ (World.block_lt_of_cell? w _ (hst j hj))];exact hst j hj
 go_enter Tryz.func111,Tryz.ntmps111
 go_wp2_with fail;refine(reset st w.heap.size _ (yV _ _ _ rfl _ rfl _ Az) (fun j=>(Bx.new w _ _).frozen j) hst1).mono ?_;rintro e w1 ⟨rfl,WU,g1⟩
 go_wp2_with fail
 go_ret;exact⟨rfl,WU,((Below.refl _ w).alloc (Nat.le_refl _) _).grown g1 (by simp) (fun k e=>by cases e;exact Nat.le_refl _)⟩
set_option maxRecDepth 20000 in
theorem ZQ(rc st:Nat->BitVec 32)(t:ByteArray)(w:World)(hr:Rounds rc w)(hst:Start st w)(ht:t.size<=1099511627776) :
 Calls Tryz.prog 66 #[.string t] w fun e w'=>e = .returned (.agg (Lib.byteCells (eX rc st t.data.toList)).toArray)/\Below w.heap.size w w':=by
 have h0:=World.block_lt_of_cell? w _ (hr 0 (by decide))
 go_enter Tryz.func66,Tryz.ntmps66
 go_wp2_with fail;refine ae fun W0 hW0=>?_
 obtain⟨b0,x0,z0⟩:=iV hW0;have VJ:=b0.size;have z1:w.heap.size<W0.heap.size:=(by omega);clear hW0 z0;have zde:Start st W0:=fun j hj=>(b0.cell (World.block_lt_of_cell? w _ (hst j hj))).trans (hst j hj)
 refine(new st W0 zde).mono ?_;rintro e w1 ⟨rfl,WU,b1⟩;have hr1:=(hr.below b0).below b1
 go_wp2_with fail;refine(yU rc W0.heap.size (S.zero st) t _ WU hr1 (by omega) (by show 0<64;omega) (by show 0+t.size<=_;omega)).mono ?_;rintro e w2 ⟨rfl,Yw,g2⟩;have hr2:=hr1.grown g2 (by omega);have hb2:Below w.heap.size w w2:=((b0.trans (b1.mono b0.size))).grown g2 (by have:=b1.size;omega) (fun k e=>by have:=Option.some.inj e;omega);have x2:=(x0.below b1).kept (w':=w2) (g2.block _ (by have:=b1.size;omega) (fun e=>by have:=Option.some.inj e;omega))
 go_wp2_with fail;refine(I5 rc W0.heap.size _ _ Yw hr2 (by omega) (qf rc _ _ (by show 0<64;omega)) (by rw[uV];show 0+_<=_;simpa using ht)).mono ?_;rintro e w3 ⟨rfl,b3⟩;have x3:=x2.below b3;have hb3:=hb2.trans (b3.mono hb2.size);obtain⟨D,hD⟩:∃D,Lib.byteCells (((S.zero st).wrote rc t.data.toList).sum rc)=D:=⟨_,rfl⟩;have hDl:D.length=32:=(by rw[←hD,Lib.byteCells_length,eu]);have yI:∀v∈D,v.oneCell'=true:=fun v hv=>by
  rw[←hD]at hv;obtain⟨j,_,rfl⟩:=List.mem_map.1 hv;rfl
 rw[hD];have HD:=yH hD;have lC:=yH hDl;have G5:=yH yI;have X3:=yH x3;clear hD hDl yI x3 x2 x0
 go_wp2_with ((refine wpList_store_mid (by rfl) 29 _ _ (by rfl) w.heap.size 0 D.toArray (by rfl) (by rfl) ?h4 ?h5 ?h6 ?_;rotate_right))
 case h4=>exact X3.out.there _ (by rw[show D.toArray.size=32 by rw[List.size_toArray,lC.out]];rfl)
 case h5=>rw[List.size_toArray,lC.out];kernel_rfl
 case h6=>exact all_oneCell_toArray G5.out
 have hfin:(w3.setCells w.heap.size 0 D).rangeAt w.heap.size 0 D:=World.rangeAt_setCells_same _ _ _ _ (X3.out.there _ (by rw[lC.out];rfl));have hlv:=run_loadVar_mid (P:=Tryz.prog) _ w.heap.size 0 29 D _ hfin Tryz.underlying29 rfl (by rw[lC.out];kernel_rfl);refine bodyPost_ret (v:=.agg D.toArray) (ai Tryz.results66 rfl hlv) rfl ⟨by unfold eX;rw[HD.out],?_⟩;exact hb3.grown (dB _ _ _ _) (by have:=hb3.size;omega) (fun k e=>by cases e;exact Nat.le_refl _)
end ku
end Go.Proofs.YtmmmghpimdfleaaGreatDoor
