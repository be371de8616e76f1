/-
  sha: the words of 32 bits as BitVec 32; right, Block.
-/
import Derived.Test.YtmmmghpimdfleaaGreatDoorTk
import Derived.Test.YtmmmghpimdfleaaGreatDoorProg
import Derived.Test.YtmmmghpimdfleaaGreatDoorGrpA
import Derived.WalkKit
import Derived.Laws.BitsLemmas
import Derived.BigQuiet
import Derived.Deep.MidRow
import Derived.Deep.RegionHeld3
import Derived.Lib.Hide
import Derived.KernelRfl
set_option linter.unusedVariables false
set_option maxHeartbeats 1000000
namespace Go.Proofs.YtmmmghpimdfleaaGreatDoor.ku
open Go.RowKit
def rr(x:BitVec 32)(n:Nat):BitVec 32:=(x >>> n) ||| (x <<< (32-n))
theorem tq(x:BitVec 32):BitVec.ofInt 32 (x.toNat:Int)=x:=by
 apply BitVec.eq_of_toNat_eq;have:=x.isLt;simp
theorem wU(x:BitVec 32):IntKind.u32.wrap (x.toNat:Int)=(x.toNat:Int):=by
 rw[IntKind.wrap_u32];have:=x.isLt;omega
theorem IV(x y:BitVec 32):bits .or .u32 (x.toNat:Int) (y.toNat:Int)=((x ||| y).toNat:Int):=by
 unfold bits;simp only[IntKind.bits,tq];exact wU _
theorem GY(x y:BitVec 32):bits .and .u32 (x.toNat:Int) (y.toNat:Int)=((x &&& y).toNat:Int):=by
 unfold bits;simp only[IntKind.bits,tq];exact wU _
theorem wE(x y:BitVec 32):bits .xor .u32 (x.toNat:Int) (y.toNat:Int)=((x ^^^ y).toNat:Int):=by
 unfold bits;simp only[IntKind.bits,tq];exact wU _
theorem TB(x:BitVec 32):bits .xor .u32 (if IntKind.u32.signed=true then -1 else IntKind.u32.max) (x.toNat:Int)=((~~~x).toNat:Int):=by
 have:(if IntKind.u32.signed=true then -1 else IntKind.u32.max)=((BitVec.allOnes 32).toNat:Int):=(by decide);rw[this,wE,BitVec.allOnes_xor]
theorem yG(x y:BitVec 32):((x.toNat:Int)+(y.toNat:Int)) % (4294967296:Int)=((x+y).toNat:Int):=by
 rw[BitVec.toNat_add];omega
theorem EY(x y z u:BitVec 32):((x.toNat:Int)+(y.toNat:Int)+(z.toNat:Int)+(u.toNat:Int)) % (4294967296:Int)=((x+y+z+u).toNat:Int):=by
 rw[BitVec.toNat_add,BitVec.toNat_add,BitVec.toNat_add];omega
theorem NT(x:BitVec 32)(n:Nat):(x.toNat:Int) / (2:Int) ^ n=((x >>> n).toNat:Int):=by
 rw[BitVec.toNat_ushiftRight,Nat.shiftRight_eq_div_pow,Int.natCast_ediv,Int.natCast_pow];rfl
theorem Ub(x:BitVec 32)(n:Nat):(x.toNat:Int)*(2:Int) ^ n % (4294967296:Int)=((x <<< n).toNat:Int):=by
 rw[BitVec.toNat_shiftLeft,Nat.shiftLeft_eq,Int.natCast_emod,Int.natCast_mul,Int.natCast_pow];rfl
theorem LY(x:BitVec 32):(x.toNat:Int) / (8:Int)=((x >>> 3).toNat:Int):=NT x 3
theorem GZ(x:BitVec 32):(x.toNat:Int) / (1024:Int)=((x >>> 10).toNat:Int):=NT x 10
theorem right(x:BitVec 32)(n:Nat)(h0:0<n)(h:n<32)(w:World) :
 Calls Tryz.prog 223 #[.int .u32 (x.toNat:Int),.int .u64 (n:Int)] w fun e w'=>e = .returned (.int .u32 ((rr x n).toNat:Int))/\w=w':=by
 go_enter Tryz.func223,Tryz.ntmps223
 go_wp2
 go_ret;exact⟨by rw[NT,Ub,IV];rfl,rfl⟩
/-- A block's bytes as words. -/
def be(b:Nat->BitVec 8)(i:Nat):BitVec 32:=((((b (4*i)).setWidth 32 <<< 24) ||| ((b (4*i+1)).setWidth 32 <<< 16)) ||| ((b (4*i+2)).setWidth 32 <<< 8)) ||| (b (4*i+3)).setWidth 32
def g0(x:BitVec 32):BitVec 32:=(rr x 7 ^^^ rr x 18) ^^^ (x >>> 3)
def g1(x:BitVec 32):BitVec 32:=(rr x 17 ^^^ rr x 19) ^^^ (x >>> 10)
/-- The schedule. -/
def ws(b:Nat->BitVec 8)(k:Nat):BitVec 32 :=
 if k<16 then be b k else((ws b (k-16)+g0 (ws b (k-15)))+ws b (k-7))+g1 (ws b (k-2))
termination_by k
decreasing_by all_goals omega
structure V8 where
 (a b c d e f g k:BitVec 32)
def V8.of(h:Nat->BitVec 32):V8:=⟨h 0,h 1,h 2,h 3,h 4,h 5,h 6,h 7⟩
def t1(s:V8)(r w:BitVec 32):BitVec 32:=(((s.k+((rr s.e 6 ^^^ rr s.e 11) ^^^ rr s.e 25))+((s.e &&& s.f) ^^^ (~~~s.e &&& s.g)))+r)+w
def t2(s:V8):BitVec 32:=((rr s.a 2 ^^^ rr s.a 13) ^^^ rr s.a 22)+(((s.a &&& s.b) ^^^ (s.a &&& s.c)) ^^^ (s.b &&& s.c))
def V8.next(s:V8)(r w:BitVec 32):V8:=⟨t1 s r w+t2 s,s.a,s.b,s.c,s.d+t1 s r w,s.e,s.f,s.g⟩
def rounds(rc:Nat->BitVec 32)(h:Nat->BitVec 32)(b:Nat->BitVec 8):Nat->V8
 | 0=>V8.of h
 | k+1=>(rounds rc h b k).next (rc k) (ws b k)
def NU(h:Nat->BitVec 32)(s:V8):Array Value :=
 #[.int .u32 ((h 0+s.a).toNat:Int),.int .u32 ((h 1+s.b).toNat:Int),.int .u32 ((h 2+s.c).toNat:Int),.int .u32 ((h 3+s.d).toNat:Int),.int .u32 ((h 4+s.e).toNat:Int),.int .u32 ((h 5+s.f).toNat:Int),.int .u32 ((h 6+s.g).toNat:Int),.int .u32 ((h 7+s.k).toNat:Int)]
def blk(rc:Nat->BitVec 32)(h:Nat->BitVec 32)(b:Nat->BitVec 8):Array Value:=NU h (rounds rc h b 64)
theorem NV(rc:Nat->BitVec 32)(h:Nat->BitVec 32)(b:Nat->BitVec 8):blk rc h b=NU h (rounds rc h b 64):=by unfold blk;rfl
theorem eight{w:World}{b:Nat}{u0 u1 u2 u3 u4 u5 u6 u7:Value}(h0:w.cell? ⟨b,0,none⟩=some u0)(h1:w.cell? ⟨b,1,none⟩=some u1)(h2:w.cell? ⟨b,2,none⟩=some u2)(h3:w.cell? ⟨b,3,none⟩=some u3)(h4:w.cell? ⟨b,4,none⟩=some u4)(h5:w.cell? ⟨b,5,none⟩=some u5)(h6:w.cell? ⟨b,6,none⟩=some u6)(h7:w.cell? ⟨b,7,none⟩=some u7)(v0 v1 v2 v3 v4 v5 v6 v7:Value) :
 let W:=(((((((w.setCell ⟨b,0,none⟩ v0).setCell ⟨b,1,none⟩ v1).setCell ⟨b,2,none⟩ v2).setCell ⟨b,3,none⟩ v3).setCell ⟨b,4,none⟩ v4).setCell ⟨b,5,none⟩ v5).setCell ⟨b,6,none⟩ v6).setCell ⟨b,7,none⟩ v7
 W.cell? ⟨b,0,none⟩=some v0/\W.cell? ⟨b,1,none⟩=some v1/\W.cell? ⟨b,2,none⟩=some v2/\W.cell? ⟨b,3,none⟩=some v3/\W.cell? ⟨b,4,none⟩=some v4/\W.cell? ⟨b,5,none⟩=some v5/\W.cell? ⟨b,6,none⟩=some v6/\W.cell? ⟨b,7,none⟩=some v7/\∀(a:World) (B:Nat),B<=b->Below B a w->Below B a W:=by
 intro W;have hj:∀j (hj:j < [v0,v1,v2,v3,v4,v5,v6,v7].length),(w.setCells b 0 [v0,v1,v2,v3,v4,v5,v6,v7]).cell? ⟨b,0+j,none⟩=some [v0,v1,v2,v3,v4,v5,v6,v7][j]:=World.cell?_setCells_in b _ 0 w (fun j hj=>by
  match j,hj with
  | 0,_=>rw[h0];rfl
  | 1,_=>rw[h1];rfl
  | 2,_=>rw[h2];rfl
  | 3,_=>rw[h3];rfl
  | 4,_=>rw[h4];rfl
  | 5,_=>rw[h5];rfl
  | 6,_=>rw[h6];rfl
  | 7,_=>rw[h7];rfl)
 exact⟨hj 0 (by simp),hj 1 (by simp),hj 2 (by simp),hj 3 (by simp),hj 4 (by simp),hj 5 (by simp),hj 6 (by simp),hj 7 (by simp),fun a B hB hb=>(((((((hb.setCell (p:=⟨b,0,none⟩) hB v0).setCell (p:=⟨b,1,none⟩) hB v1).setCell (p:=⟨b,2,none⟩) hB v2).setCell (p:=⟨b,3,none⟩) hB v3).setCell (p:=⟨b,4,none⟩) hB v4).setCell (p:=⟨b,5,none⟩) hB v5).setCell (p:=⟨b,6,none⟩) hB v6).setCell (p:=⟨b,7,none⟩) hB v7⟩
theorem w8(x:BitVec 8):(x.toNat:Int)=((x.setWidth 32).toNat:Int):=by simp[BitVec.toNat_setWidth];omega
theorem w8s(x:BitVec 8)(n:Nat)(hn:n<=24):(x.toNat:Int)*2 ^ n=((x.setWidth 32 <<< n).toNat:Int):=by
 rw[←Ub,←w8];have:x.toNat<256:=x.isLt;have h2:(2:Int) ^ n<=2 ^ 24:=(by exact_mod_cast Nat.pow_le_pow_right (by decide) hn);have h3:(0:Int)<=2 ^ n:=Int.pow_nonneg (by decide);rw[Int.emod_eq_of_lt]
 ·exact Int.mul_nonneg (by omega) h3
 ·calc (x.toNat:Int)*2 ^ n<=(x.toNat:Int)*2 ^ 24:=Int.mul_le_mul_of_nonneg_left h2 (by omega)
   _<4294967296:=by omega
theorem WM(b:Nat->BitVec 8)(i:Nat):bits .or .u32 (bits .or .u32 (bits .or .u32 (((b (4*i)).toNat:Int)*16777216) (((b (4*i+1)).toNat:Int)*65536)) (((b (4*i+2)).toNat:Int)*256)) ((b (4*i+3)).toNat:Int)=((be b i).toNat:Int):=by
 rw[show((b (4*i)).toNat:Int)*16777216=_ from w8s _ 24 (by decide),show((b (4*i+1)).toNat:Int)*65536=_ from w8s _ 16 (by decide),show((b (4*i+2)).toNat:Int)*256=_ from w8s _ 8 (by decide),w8 (b (4*i+3)),IV,IV,IV];rfl
/-- The memory of a Block call: its two arrays, the result, the schedule up to k. -/
structure St(h:Nat->BitVec 32)(b:Nat->BitVec 8)(k:Nat)(w wr:World):Prop where
 c0:∀j,j<8->wr.cell? ⟨w.heap.size,j,none⟩=some (.int .u32 ((h j).toNat:Int))
 c1:∀j,j<64->wr.cell? ⟨w.heap.size+1,j,none⟩=some (.int .u8 ((b j).toNat:Int))
 c2:wr.heap[w.heap.size+1+1]? = some (.cells #[.int .u32 0,.int .u32 0,.int .u32 0,.int .u32 0,.int .u32 0,.int .u32 0,.int .u32 0,.int .u32 0] 208 (0,0))
 c3:∀j,j<k->wr.cell? ⟨w.heap.size+1+1+1,j,none⟩=some (.int .u32 ((ws b j).toNat:Int))
 s3:∀j,j<64->(wr.cell? ⟨w.heap.size+1+1+1,j,none⟩).isSome=true
 f3:∀j,wr.frozen? ⟨w.heap.size+1+1+1,j,none⟩=false
 below:Below w.heap.size w wr
theorem St.same{h:Nat->BitVec 32}{b:Nat->BitVec 8}{k:Nat}{w wr w':World}(s:St h b k w wr)(hs:Lb.Sm wr w'):St h b k w w':=by
 have hf:∀a,w'.frozen? a=wr.frozen? a:=fun a=>by unfold World.frozen?;rw[hs.heap]
 exact⟨fun j hj=>(hs.cell _).trans (s.c0 j hj),fun j hj=>(hs.cell _).trans (s.c1 j hj),by rw[hs.heap];exact s.c2,fun j hj=>(hs.cell _).trans (s.c3 j hj),fun j hj=>by rw[hs.cell];exact s.s3 j hj,fun j=>(hf _).trans (s.f3 j),hs.below s.below⟩
theorem at_new(W:World)(o:Obj)(n:Nat)(h:n=W.heap.size):(W.alloc o).heap[n]? = some o:=by subst h;exact heap_alloc_new W o
theorem St.put{h:Nat->BitVec 32}{b:Nat->BitVec 8}{k:Nat}{w wr:World}(s:St h b k w wr)(hk:k<64):St h b (k+1) w (wr.setCell ⟨w.heap.size+1+1+1,k,none⟩ (.int .u32 ((ws b k).toNat:Int))):=by
 have ho:∀(g j:Nat),g≠w.heap.size+1+1+1∨j≠k->(wr.setCell ⟨w.heap.size+1+1+1,k,none⟩ (.int .u32 ((ws b k).toNat:Int))).cell? ⟨g,j,none⟩=wr.cell? ⟨g,j,none⟩:=fun g j hne =>
  World.cell?_setCell_other _ _ _ _ (by intro e;injection e;omega)
 have hsame:=World.cell?_setCell_same' wr ⟨w.heap.size+1+1+1,k,none⟩ (.int .u32 ((ws b k).toNat:Int)) (s.s3 k hk);refine⟨fun j hj=>(ho _ _ (.inl (by omega))).trans (s.c0 j hj),fun j hj=>(ho _ _ (.inl (by omega))).trans (s.c1 j hj),(heap_setCell_other _ _ _ _ (by simp)).trans s.c2,fun j hj=>?_,fun j hj=>?_,fun j=>?_,s.below.setCell (by show w.heap.size<=w.heap.size+1+1+1;omega) _⟩
 ·by_cases e:j=k
  ·subst e;exact hsame
  ·exact(ho _ _ (.inr e)).trans (s.c3 j (by omega))
 ·by_cases e:j=k
  ·subst e;rw[hsame];rfl
  ·rw[ho _ _ (.inr e)];exact s.s3 j hj
 ·rw[World.frozen?_setCell];exact s.f3 j
theorem Tz(b:Nat->BitVec 8)(k:Nat)(h:k<16):ws b k=be b k:=by rw[ws,if_pos h]
theorem TC(b:Nat->BitVec 8)(k:Nat)(h:¬k<16):ws b k=((ws b (k-16)+g0 (ws b (k-15)))+ws b (k-7))+g1 (ws b (k-2)):=by
 conv=>lhs;rw[ws]
 rw[if_neg h]
set_option maxRecDepth 20000 in
theorem block(H B:Array Value)(hs:H.size=8)(bs:B.size=64)(rc:Nat->BitVec 32)(h:Nat->BitVec 32)(b:Nat->BitVec 8)(hh:∀j,j<8->H[j]? = some (.int .u32 ((h j).toNat:Int)))(hb:∀j,j<64->B[j]? = some (.int .u8 ((b j).toNat:Int)))(w:World)(hr:∀j,j<64->w.cell? ⟨1,j,none⟩=some (.int .u32 ((rc j).toNat:Int))) :
 Calls Tryz.prog 190 #[.agg H,.agg B] w fun e w'=>e = .returned (.agg (blk rc h b))/\Below w.heap.size w w':=by
 go_enter Tryz.func190,Tryz.ntmps190
 go_wp2_with fail
 go_loopw [23] (fun i wr=>∃k:Nat,k<=16/\i = .int .i64 k/\St h b k w wr) (fun i _=>16-(intOf i).toNat)
 case atStart => 
  refine⟨0,Nat.zero_le _,rfl,?_,?_,?_,?_,?_,?_,?_⟩
  ·intro j hj;have e:=hh j hj;rw[Array.getElem?_eq_getElem (by omega)]at e;have e':=Option.some.inj e
   go_simp
  ·intro j hj;have e:=hb j hj;rw[Array.getElem?_eq_getElem (by omega)]at e;have e':=Option.some.inj e
   go_simp
  ·exact(Lib.alloc_old _ _ _ (by simp)).trans (at_new _ _ _ (by simp))
  ·intro j hj;omega
  ·intro j hj
   go_simp
  ·intro j
   go_simp
  ·exact(((((Below.refl _ _).alloc (Nat.le_refl _) _).alloc (by simp) _).alloc (by simp;omega) _).alloc (by simp;omega) _)
 case round =>
  obtain⟨k,hk,rfl,hst⟩:=hrel;by_cases hlt:k<16
  ·have e0:(0:Int)<=(k:Int):=Int.natCast_nonneg _;have e1:(k:Int)<16:=(by omega);have x0:=hst.c1 (4*k) (by omega);have x1:=hst.c1 (4*k+1) (by omega);have x2:=hst.c1 (4*k+2) (by omega);have x3:=hst.c1 (4*k+3) (by omega);obtain⟨y0,y⟩:=Option.isSome_iff_exists.1 (hst.s3 k (by omega));have yf:=hst.f3 k
   go_wp2
   go_region
   go_wp2
   go_roundw
   case rel =>
    refine⟨k+1,by omega,by go_num,?_⟩;rw[WM,←Tz b k hlt];exact(hst.put (by omega)).same ⟨rfl,rfl,rfl,rfl⟩
   case measure=>simp[intOf];omega
  ·have hst:=(show k=16 by omega)▸hst;rw[show(k:Int)=16 by omega];clear hlt hk
   go_wp2_with fail
   go_loopw [7] (fun i wr=>∃k:Nat,16<=k/\k<=64/\i = .int .i64 k/\St h b k w wr) (fun i _=>64-(intOf i).toNat)
   case atStart=>exact⟨16,by omega,by omega,rfl,hst⟩
   case round =>
    obtain⟨k,hk0,hk,rfl,hst⟩:=hrel;by_cases hlt:k<64
    ·have e0:(16:Int)<=(k:Int):=(by omega);have e1:(k:Int)<64:=(by omega);have q15:IntKind.i64.wrap ((k:Int)-15)=((k-15:Nat):Int):=(by rw[IntKind.wrap_i64];omega);have q16:IntKind.i64.wrap ((k:Int)-16)=((k-16:Nat):Int):=(by rw[IntKind.wrap_i64];omega);have q2:IntKind.i64.wrap ((k:Int)-2)=((k-2:Nat):Int):=(by rw[IntKind.wrap_i64];omega);have q7:IntKind.i64.wrap ((k:Int)-7)=((k-7:Nat):Int):=(by rw[IntKind.wrap_i64];omega);have b15:((k-15:Nat):Int)<64:=(by omega);have b16:((k-16:Nat):Int)<64:=(by omega);have b2:((k-2:Nat):Int)<64:=(by omega);have b7:((k-7:Nat):Int)<64:=(by omega);have x0:=hst.c3 (k-16) (by omega);have x1:=hst.c3 (k-15) (by omega);have x2:=hst.c3 (k-7) (by omega);have x3:=hst.c3 (k-2) (by omega);obtain⟨y0,y⟩:=Option.isSome_iff_exists.1 (hst.s3 k (by omega));have yf:=hst.f3 k
     go_wp2
     go_quiet ((go_at_call 223;refine Calls.mono (right _ _ (by decide) (by decide) _) ?_;rintro e w' ⟨rfl,rfl⟩;exact⟨rfl,_,rfl⟩))
     go_wp2
     go_quiet ((go_at_call 223;refine Calls.mono (right _ _ (by decide) (by decide) _) ?_;rintro e w' ⟨rfl,rfl⟩;exact⟨rfl,_,rfl⟩))
     go_wp2
     go_region
     go_wp2
     go_roundw
     case rel =>
      refine⟨k+1,by omega,by omega,by go_num,?_⟩;simp only[LY,GZ,wE,EY];rw[show ws b (k-16)+(rr (ws b (k-15)) 7 ^^^ rr (ws b (k-15)) 18 ^^^ ws b (k-15) >>> 3)+ws b (k-7)+(rr (ws b (k-2)) 17 ^^^ rr (ws b (k-2)) 19 ^^^ ws b (k-2) >>> 10)=ws b k from(TC b k (by omega)).symm];exact(hst.same (Lb.Sm.drewN _ _)).put hlt
     case measure=>simp[intOf];omega
    ·have hst:=(show k=64 by omega)▸hst;rw[show(k:Int)=64 by omega];clear hlt hk hk0;have y0:=hst.c0 0 (by decide);have y1:=hst.c0 1 (by decide);have y2:=hst.c0 2 (by decide);have y3:=hst.c0 3 (by decide);have y4:=hst.c0 4 (by decide);have y5:=hst.c0 5 (by decide);have y6:=hst.c0 6 (by decide);have y7:=hst.c0 7 (by decide)
     go_wp2
     go_quiet (fail);clear y0 y1 y2 y3 y4 y5 y6 y7
     go_wp2
     go_loopw [10,11,12,13,14,15,16,17,127] (fun a b' c d e f g k i wr=>∃n:Nat,n<=64/\i = .int .i64 n/\a = .int .u32 ((rounds rc h b n).a.toNat:Int)/\b' = .int .u32 ((rounds rc h b n).b.toNat:Int)/\c = .int .u32 ((rounds rc h b n).c.toNat:Int)/\d = .int .u32 ((rounds rc h b n).d.toNat:Int)/\e = .int .u32 ((rounds rc h b n).e.toNat:Int)/\f = .int .u32 ((rounds rc h b n).f.toNat:Int)/\g = .int .u32 ((rounds rc h b n).g.toNat:Int)/\k = .int .u32 ((rounds rc h b n).k.toNat:Int)/\St h b 64 w wr) (fun _ _ _ _ _ _ _ _ i _=>64-(intOf i).toNat)
     case atStart=>exact⟨0,by omega,rfl,rfl,rfl,rfl,rfl,rfl,rfl,rfl,rfl,hst.same (Lb.Sm.drewN _ _)⟩
     case round =>
      obtain⟨n,hn,rfl,rfl,rfl,rfl,rfl,rfl,rfl,rfl,rfl,hst⟩:=hrel;by_cases hlt:n<64
      ·have e0:(0:Int)<=(n:Int):=(by omega);have e1:(n:Int)<64:=(by omega);have x0:=hst.c3 n hlt;have x1:wr.cell? ⟨1,n,none⟩=some (.int .u32 ((rc n).toNat:Int)):=(hst.below.cell (World.block_lt_of_cell? w _ (hr n hlt))).trans (hr n hlt)
       go_wp2_with (go_at_call 223;refine Calls.mono (right _ _ (by decide) (by decide) _) ?_;rintro e w' ⟨rfl,rfl⟩)
       go_quiet (fail);simp only[wE,GY,TB,EY,yG];obtain⟨T1,hT1⟩:∃T,t1 (rounds rc h b n) (rc n) (ws b n)=T:=⟨_,rfl⟩;have WO:=hT1;unfold t1 at WO;simp only[WO];have hT1:=yH hT1;clear WO
       go_wp2_with (go_at_call 223;refine Calls.mono (right _ _ (by decide) (by decide) _) ?_;rintro e w' ⟨rfl,rfl⟩)
       go_roundw
       case rel =>
        have h1:=hT1.out;subst h1;refine⟨n+1,by omega,by go_num,?_,rfl,rfl,rfl,?_,rfl,rfl,rfl,hst.same (Lb.Sm.drewN _ _)⟩
        ·simp only[wE,GY,yG];rfl
        ·simp only[yG];rfl
       case measure=>simp[intOf];omega
      ·have hN:=yH (show n=64 by omega);have e1:¬(n:Int)<64:=(by omega);have y0:=hst.c0 0 (by decide);have y1:=hst.c0 1 (by decide);have y2:=hst.c0 2 (by decide);have y3:=hst.c0 3 (by decide);have y4:=hst.c0 4 (by decide);have y5:=hst.c0 5 (by decide);have y6:=hst.c0 6 (by decide);have y7:=hst.c0 7 (by decide);have zf:∀j,wr.frozen? ⟨w.heap.size+1+1,j,none⟩=false:=fun j=>Lib.frozen_of_heap hst.c2 j
       have zf0:=zf 0;have zf1:=zf 1;have zf2:=zf 2;have zf3:=zf 3;have zf4:=zf 4;have zf5:=zf 5;have zf6:=zf 6;have zf7:=zf 7;clear zf;have z0:wr.cell? ⟨w.heap.size+1+1,0,none⟩=some (.int .u32 0):=(by rw[Lib.cell_of_heap hst.c2];rfl);have z1:wr.cell? ⟨w.heap.size+1+1,1,none⟩=some (.int .u32 0):=(by rw[Lib.cell_of_heap hst.c2];rfl);have z2:wr.cell? ⟨w.heap.size+1+1,2,none⟩=some (.int .u32 0):=(by rw[Lib.cell_of_heap hst.c2];rfl);have z3:wr.cell? ⟨w.heap.size+1+1,3,none⟩=some (.int .u32 0):=(by rw[Lib.cell_of_heap hst.c2];rfl);have z4:wr.cell? ⟨w.heap.size+1+1,4,none⟩=some (.int .u32 0):=(by rw[Lib.cell_of_heap hst.c2];rfl);have z5:wr.cell? ⟨w.heap.size+1+1,5,none⟩=some (.int .u32 0):=(by rw[Lib.cell_of_heap hst.c2];rfl);have z6:wr.cell? ⟨w.heap.size+1+1,6,none⟩=some (.int .u32 0):=(by rw[Lib.cell_of_heap hst.c2];rfl);have z7:wr.cell? ⟨w.heap.size+1+1,7,none⟩=some (.int .u32 0):=(by rw[Lib.cell_of_heap hst.c2];rfl)
       go_wp2_with fail;simp only[yG];have hl:=eight (w:=wr) (b:=w.heap.size+1+1) z0 z1 z2 z3 z4 z5 z6 z7 (.int .u32 ((h 0+(rounds rc h b n).a).toNat:Int)) (.int .u32 ((h 1+(rounds rc h b n).b).toNat:Int)) (.int .u32 ((h 2+(rounds rc h b n).c).toNat:Int)) (.int .u32 ((h 3+(rounds rc h b n).d).toNat:Int)) (.int .u32 ((h 4+(rounds rc h b n).e).toNat:Int)) (.int .u32 ((h 5+(rounds rc h b n).f).toNat:Int)) (.int .u32 ((h 6+(rounds rc h b n).g).toNat:Int)) (.int .u32 ((h 7+(rounds rc h b n).k).toNat:Int));obtain⟨p0,p1,p2,p3,p4,p5,p6,p7,hbl⟩:=hl;have hb1:=hbl w w.heap.size (by omega) hst.below;clear hbl;refine bodyPost_ret (v:=.agg (NU h (rounds rc h b n))) ?_ rfl ?_
       ·simp[results,Tryz.results190,go_sem,z0,z1,z2,z3,z4,z5,z6,z7,NU]
       ·refine⟨?_,hb1⟩;rw[show rounds rc h b n=rounds rc h b 64 by rw[hN.out],NV]
end Go.Proofs.YtmmmghpimdfleaaGreatDoor.ku
