/-
  sha, plain: the ak way (block by block) gives the program's digest.
  The ak sha: turn, step, constants, Start.
  The ak sha: constants, Start.
  The ak words: the schedule of a block.
  The ak Block.
  The ak Pad.
  The ak Of: the digest of a text.
-/
import Derived.Test.YtmmmghpimdfleaaGreatDoorTk
import Derived.Test.YtmmmghpimdfleaaGreatDoorGrpJ
import Derived.Test.YtmmmghpimdfleaaGreatDoorGrpC
import Derived.Test.YtmmmghpimdfleaaGreatDoorGrpY
import Derived.Test.YtmmmghpimdfleaaGreatDoorGrpDA
set_option linter.unusedVariables false
set_option maxHeartbeats 4000000
set_option linter.unusedSimpArgs false
namespace Go.Proofs.YtmmmghpimdfleaaGreatDoor
namespace ku
open Go.RowKit
/-- A block of the padded text. -/
def bB(m:List UInt8)(o:Nat):Nat->BitVec 8:=fun j=>((m[o+j]?).getD 0).toBitVec
/-- The words behind k blocks. -/
def hB(rc st:Nat->BitVec 32)(m:List UInt8):Nat->Nat->BitVec 32
 | 0=>st
 | k+1=>hb rc (hB rc st m k) (bB m (64*k))
theorem LP{b b':Nat->BitVec 8}(h:∀j,j<64->b j=b' j)(k:Nat):ws b k=ws b' k:=by
 induction k using Nat.strongRecOn with
 | _ k ih =>
  rw[ws.eq_def b k,ws.eq_def b' k];by_cases hk:k<16
  ·rw[if_pos hk,if_pos hk];unfold be;rw[h (4*k) (by omega),h (4*k+1) (by omega),h (4*k+2) (by omega),h (4*k+3) (by omega)]
  ·rw[if_neg hk,if_neg hk,ih (k-16) (by omega),ih (k-15) (by omega),ih (k-7) (by omega),ih (k-2) (by omega)]
theorem zX{rc h:Nat->BitVec 32}{b b':Nat->BitVec 8}(hb:∀j,j<64->b j=b' j)(k:Nat):rounds rc h b k=rounds rc h b' k:=by
 induction k with
 | zero=>rfl
 | succ k ih=>rw[rounds,rounds,ih,LP hb]
theorem LQ{rc h:Nat->BitVec 32}{b b':Nat->BitVec 8}(e:∀j,j<64->b j=b' j):hb rc h b=hb rc h b':=by
 have hr:=zX (rc:=rc) (h:=h) e 64;funext i;unfold hb;rw[hr]
theorem LU(rc st:Nat->BitVec 32)(m:List UInt8):∀k,64*k<=m.length->((S.zero st).wrote rc (m.take (64*k))).used=0/\((S.zero st).wrote rc (m.take (64*k))).h=hB rc st m k:=by
 intro k
 induction k with
 | zero=>intro _;exact⟨rfl,rfl⟩
 | succ k ih =>
  intro hk;obtain⟨i1,i2⟩:=ih (by omega);have hl:((m.drop (64*k)).take 64).length=64:=(by rw[List.length_take,List.length_drop];omega);have e:m.take (64*(k+1))=m.take (64*k)++(m.drop (64*k)).take 64:=(by rw[show 64*(k+1)=64*k+64 by omega,List.take_add]);rw[e,lZ];obtain⟨s,hs⟩:∃s,(S.zero st).wrote rc (m.take (64*k))=s:=⟨_,rfl⟩;rw[hs]at i1 i2 ⊢;have hf:=sF rc ((m.drop (64*k)).take 64) s (fun h=>by rw[h]at hl;cases hl) (by rw[i1,hl];decide);rw[←hf,hl];have hu:(s.fill ((m.drop (64*k)).take 64)).used+64=64:=(by show s.used+64=64;rw[i1]);unfold S.took;rw[if_pos hu];refine⟨rfl,?_⟩;show hb rc s.h (s.fill _).b=hb rc (hB rc st m k) (bB m (64*k));rw[i2];refine LQ fun j hj=>?_
  unfold S.fill bB;dsimp only;rw[hl,i1,if_pos (by omega),List.getElem?_take,if_pos (by omega),List.getElem?_drop];simp
theorem zY(n:Nat):64*((n+(9+eF n)) / 64)=n+(9+eF n):=by unfold eF;omega
theorem ZC(rc st:Nat->BitVec 32)(t:List UInt8):eX rc st t=(List.range 32).map fun j=>UInt8.ofNat (((hB rc st (t++pad t.length) ((t.length+(9+eF t.length)) / 64) (j / 4)).toNat / 2 ^ (24-8*(j % 4))) % 256):=by
 have hl:(t++pad t.length).length=t.length+(9+eF t.length):=(by rw[List.length_append];unfold pad;rw[iY]);have h:=LU rc st (t++pad t.length) ((t.length+(9+eF t.length)) / 64) (by rw[zY,hl];exact Nat.le_refl _);rw[zY,←hl,List.take_length,lZ]at h;unfold eX S.sum;have hn:((S.zero st).wrote rc t).n=t.length:=(by rw[uV];show 0+_=_;omega);rw[hn,h.2,hl]
theorem or_mul(a b n:Nat)(h:b<2 ^ n):a*2 ^ n ||| b=a*2 ^ n+b:=by
 have:=Nat.shiftLeft_add_eq_or_of_lt (i:=n) h a;rw[Nat.shiftLeft_eq]at this;exact this.symm
/-- A word behind m of its four bytes. -/
def LV(b:Nat->BitVec 8)(i:Nat):Nat->Nat
 | 0=>0
 | m+1=>(LV b i m*256+(b (4*i+m)).toNat) % 4294967296
theorem Vo(b:Nat->BitVec 8)(i:Nat):LV b i 4=(be b i).toNat:=by
 obtain⟨x0,h0⟩:∃x,b (4*i)=x:=⟨_,rfl⟩;obtain⟨x1,h1⟩:∃x,b (4*i+1)=x:=⟨_,rfl⟩;obtain⟨x2,h2⟩:∃x,b (4*i+2)=x:=⟨_,rfl⟩;obtain⟨x3,h3⟩:∃x,b (4*i+3)=x:=⟨_,rfl⟩;have l0:=x0.isLt;have l1:=x1.isLt;have l2:=x2.isLt;have l3:=x3.isLt;have e:LV b i 4=((((0*256+x0.toNat) % 4294967296*256+x1.toNat) % 4294967296*256+x2.toNat) % 4294967296*256+x3.toNat) % 4294967296:=(by rw[←h0,←h1,←h2,←h3];rfl);have s0:(x0.setWidth 32 <<< 24).toNat=x0.toNat*2 ^ 24:=(by rw[BitVec.toNat_shiftLeft,BitVec.toNat_setWidth,Nat.shiftLeft_eq];omega);have s1:(x1.setWidth 32 <<< 16).toNat=x1.toNat*2 ^ 16:=(by rw[BitVec.toNat_shiftLeft,BitVec.toNat_setWidth,Nat.shiftLeft_eq];omega);have s2:(x2.setWidth 32 <<< 8).toNat=x2.toNat*2 ^ 8:=(by rw[BitVec.toNat_shiftLeft,BitVec.toNat_setWidth,Nat.shiftLeft_eq];omega);have s3:(x3.setWidth 32).toNat=x3.toNat:=(by rw[BitVec.toNat_setWidth];omega);rw[e];unfold be;rw[h0,h1,h2,h3,BitVec.toNat_or,BitVec.toNat_or,BitVec.toNat_or,s0,s1,s2,s3];rw[or_mul x0.toNat (x1.toNat*2 ^ 16) 24 (by omega)];rw[show x0.toNat*2 ^ 24+x1.toNat*2 ^ 16=(x0.toNat*256+x1.toNat)*2 ^ 16 by omega,or_mul _ (x2.toNat*2 ^ 8) 16 (by omega)];rw[show(x0.toNat*256+x1.toNat)*2 ^ 16+x2.toNat*2 ^ 8=((x0.toNat*256+x1.toNat)*256+x2.toNat)*2 ^ 8 by omega,or_mul _ x3.toNat 8 (by omega)];omega
/-- The schedule behind k words and m bytes of the next. -/
def wi(b:Nat->BitVec 8)(k m j:Nat):Nat:=if j<k then(ws b j).toNat else if j=k then LV b k m else 0
theorem Qo(b:Nat->BitVec 8)(j:Nat):wi b 0 0 j=0:=by
 unfold wi;rw[if_neg (by omega)];split<;>rfl
theorem ZE(b:Nat->BitVec 8)(k j:Nat)(h:k<16):wi b k 4 j=wi b (k+1) 0 j:=by
 unfold wi;by_cases h1:j<k
 ·rw[if_pos h1,if_pos (by omega)]
 ·by_cases h2:j=k
  ·subst h2;rw[if_neg h1,if_pos rfl,if_pos (by omega),Vo,Tz b j h]
  ·rw[if_neg h1,if_neg h2,if_neg (by omega)];split<;>rfl
/-- The Vp block. -/
structure Wd(P:Nat)(b:Nat->BitVec 8)(k m:Nat)(wr:World):Prop where
 c:∀j,j<64->wr.cell? ⟨P,j,none⟩=some (.int .u32 ((wi b k m j:Nat):Int))
 f:∀j,wr.frozen? ⟨P,j,none⟩=false
theorem Wd.set{P:Nat}{b:Nat->BitVec 8}{k m k' m':Nat}{wr:World}(s:Wd P b k m wr)(hk:k<64){x:Nat}(hx:wi b k' m' k=x)(ho:∀j,j≠k->wi b k' m' j=wi b k m j):Wd P b k' m' (wr.setCell ⟨P,k,none⟩ (.int .u32 (x:Int))):=by
 refine⟨fun j hj=>?_,fun j=>?_⟩
 ·by_cases e:j=k
  ·subst e;rw[World.cell?_setCell_same' wr ⟨P,j,none⟩ _ (by rw[s.c j hk];rfl),hx]
  ·rw[World.cell?_setCell_other _ _ _ _ (by intro h;injection h;omega),s.c j hj,ho j e]
 ·rw[World.frozen?_setCell];exact s.f j
theorem Wd.put{P:Nat}{b:Nat->BitVec 8}{k m:Nat}{wr:World}(s:Wd P b k m wr)(hk:k<64):Wd P b k (m+1) (wr.setCell ⟨P,k,none⟩ (.int .u32 ((LV b k (m+1):Nat):Int))) :=
 s.set hk (by unfold wi;rw[if_neg (by omega),if_pos rfl]) (fun j hj=>by unfold wi;rw[if_neg hj,if_neg hj])
theorem Wd.up{P:Nat}{b:Nat->BitVec 8}{k:Nat}{wr:World}(s:Wd P b k 4 wr)(hk:k<16):Wd P b (k+1) 0 wr:=⟨fun j hj=>by rw[s.c j hj,ZE b k j hk],s.f⟩
theorem Wd.hi{P:Nat}{b:Nat->BitVec 8}{k:Nat}{wr:World}(s:Wd P b k 0 wr)(hk:k<64):Wd P b (k+1) 0 (wr.setCell ⟨P,k,none⟩ (.int .u32 ((ws b k).toNat:Int))) :=
 s.set hk (by unfold wi;rw[if_pos (by omega)]) (fun j hj=>by
  unfold wi;by_cases h1:j<k
  ·rw[if_pos h1,if_pos (by omega)]
  ·rw[if_neg h1,if_neg (by omega),if_neg hj];split<;>rfl)
theorem Wd.done{P:Nat}{b:Nat->BitVec 8}{k m:Nat}{wr:World}(s:Wd P b k m wr){j:Nat}(hj:j<k)(h64:j<64):wr.cell? ⟨P,j,none⟩=some (.int .u32 ((ws b j).toNat:Int)):=by
 rw[s.c j h64];unfold wi;rw[if_pos hj]
theorem Wd.now{P:Nat}{b:Nat->BitVec 8}{k m:Nat}{wr:World}(s:Wd P b k m wr)(h64:k<64):wr.cell? ⟨P,k,none⟩=some (.int .u32 ((LV b k m:Nat):Int)):=by
 rw[s.c k h64];unfold wi;rw[if_neg (by omega),if_pos rfl]
/-- The whole schedule as cells. -/
def wc(b:Nat->BitVec 8):List Value:=(List.range 64).map fun j=>.int .u32 ((ws b j).toNat:Int)
theorem Wd.range{P:Nat}{b:Nat->BitVec 8}{m:Nat}{wr:World}(s:Wd P b 64 m wr):wr.rangeAt P 0 (wc b):=fun j v hj=>by
 have hl:j<64:=(by have:=(List.getElem?_eq_some_iff.1 hj).1;simpa[wc]using this);rw[Nat.zero_add,s.done hl hl,←hj];simp[wc,hl]
theorem Wd.heap{P:Nat}{b:Nat->BitVec 8}{k m:Nat}{w w':World}(s:Wd P b k m w)(h:w'.heap[P]? = w.heap[P]?):Wd P b k m w' :=
 ⟨fun j hj=>by unfold World.cell?;rw[h];exact s.c j hj,fun j=>by unfold World.frozen?;rw[h];exact s.f j⟩
end ku

namespace kD
open Go.RowKit Mem ku
theorem ZF(e f g:BitVec 32):(e &&& f) ||| (~~~e &&& g)=(e &&& f) ^^^ (~~~e &&& g):=by
 ext i hi
 simp only[BitVec.getElem_or,BitVec.getElem_and,BitVec.getElem_xor,BitVec.getElem_not];cases e[i]<;>cases f[i]<;>cases g[i]<;>rfl
theorem ZG(a b c:BitVec 32):((a &&& b) ||| (a &&& c)) ||| (b &&& c)=((a &&& b) ^^^ (a &&& c)) ^^^ (b &&& c):=by
 ext i hi
 simp only[BitVec.getElem_or,BitVec.getElem_and,BitVec.getElem_xor];cases a[i]<;>cases b[i]<;>cases c[i]<;>rfl
theorem ZH(k s c r w:BitVec 32):((k+s)+c)+(r+w)=(((k+s)+c)+r)+w:=by ac_rfl
theorem Vq(a b:Nat)(hb:b<4294967296):(a*4294967296) ||| b=a*4294967296+b:=by
 have:=Nat.shiftLeft_add_eq_or_of_lt (i:=32) hb a;rw[Nat.shiftLeft_eq]at this;exact this.symm
theorem Qp(x:BitVec 32)(n:Nat)(h0:0<n)(h:n<32):((x.toNat*4294967296+x.toNat) / 2 ^ n) % 4294967296=(rr x n).toNat:=by
 unfold rr;have e1:x.toNat*4294967296+x.toNat=(x++x:BitVec 64).toNat:=by
  rw[BitVec.toNat_append,Nat.shiftLeft_eq,←Nat.shiftLeft_eq,←Nat.shiftLeft_add_eq_or_of_lt x.isLt];rw[Nat.shiftLeft_eq]
 have e2:((x++x:BitVec 64) >>> n).toNat % 4294967296=(((x++x:BitVec 64) >>> n).setWidth 32).toNat:=(by rw[BitVec.toNat_setWidth]);rw[e1,←Nat.shiftRight_eq_div_pow,←BitVec.toNat_ushiftRight,e2];congr 1;apply BitVec.eq_of_getLsbD_eq;intro i hi;have hxx:∀j,(x++x:BitVec 64).getLsbD j=if j<32 then x.getLsbD j else x.getLsbD (j-32):=fun j=>BitVec.getLsbD_append
 rw[BitVec.getLsbD_setWidth,BitVec.getLsbD_ushiftRight,hxx,BitVec.getLsbD_or,BitVec.getLsbD_ushiftRight,BitVec.getLsbD_shiftLeft];by_cases h1:n+i<32
 ·have h2:i<32-n:=(by omega);simp[h1,h2,hi]
 ·have h2:¬i<32-n:=(by omega);have h3:n+i-32=i-(32-n):=(by omega);have h4:x.getLsbD (n+i)=false:=BitVec.getLsbD_of_ge _ _ (by omega);simp[h1,h2,h3,h4,hi]
theorem LW(x:BitVec 32)(n:Nat)(h0:0<n)(h:n<32)(w:World) :
 Calls Tryz.prog 233 #[.int .u32 (x.toNat:Int),.int .u64 (n:Int)] w fun e w'=>e = .returned (.int .u32 ((rr x n).toNat:Int))/\w'=w:=by
 have HT:=yH (Qp x n h0 h);have hx:=x.isLt
 go_enter Tryz.func233,Tryz.ntmps233
 go_wp2
 go_ret;have e2:bits BinOp.or IntKind.u64 ((x.toNat:Int)*4294967296) (x.toNat:Int) / 2 ^ n % 4294967296=((rr x n).toNat:Int):=by
  rw[show((x.toNat:Int)*4294967296)=((x.toNat*4294967296:Nat):Int) by simp,u64_or_nat _ _ (by omega) (by omega),Vq _ _ hx,←HT.out];simp
 refine⟨?_,rfl⟩;show Ending.returned (.int .u32 _)=_;rw[e2]
theorem bn(x:BitVec 32):bits .xor .u32 IntKind.u32.max (x.toNat:Int)=((~~~x).toNat:Int):=by
 have h:=TB x;rw[if_neg (by decide)]at h;exact h
def LX(s:V8):Array Value:=#[.int .u32 (s.a.toNat:Int),.int .u32 (s.b.toNat:Int),.int .u32 (s.c.toNat:Int),.int .u32 (s.d.toNat:Int),.int .u32 (s.e.toNat:Int),.int .u32 (s.f.toNat:Int),.int .u32 (s.g.toNat:Int),.int .u32 (s.k.toNat:Int)]
def lq:Array Value:=#[.int .u32 0,.int .u32 0,.int .u32 0,.int .u32 0,.int .u32 0,.int .u32 0,.int .u32 0,.int .u32 0]
set_option maxRecDepth 20000 in
theorem ZI(s:V8)(r x:BitVec 32)(w:World) :
 Calls Tryz.prog 213 #[.agg (LX s),.int .u32 ((r+x).toNat:Int)] w fun e w'=>e = .returned (.agg (LX (s.next r x)))/\Below w.heap.size w w':=by
 obtain⟨a,b,c,d,e,f,g,k⟩:=s;have HN:=yH (show V8.next ⟨a,b,c,d,e,f,g,k⟩ r x=⟨t1 ⟨a,b,c,d,e,f,g,k⟩ r x+t2 ⟨a,b,c,d,e,f,g,k⟩,a,b,c,d+t1 ⟨a,b,c,d,e,f,g,k⟩ r x,e,f,g⟩from rfl);obtain⟨y,hy⟩:∃y,r+x=y:=⟨_,rfl⟩;have HY:=yH hy;rw[hy];clear hy;unfold LX
 go_enter Tryz.func213,Tryz.ntmps213
 go_wp2_with fail;obtain⟨w1,hw1⟩:∃W,(w.alloc (.cells #[.int .u32 (a.toNat:Int),.int .u32 (b.toNat:Int),.int .u32 (c.toNat:Int),.int .u32 (d.toNat:Int),.int .u32 (e.toNat:Int),.int .u32 (f.toNat:Int),.int .u32 (g.toNat:Int),.int .u32 (k.toNat:Int)] 208)).alloc (.cells lq 208)=W:=⟨_,rfl⟩;have hz:lq=#[.int .u32 0,.int .u32 0,.int .u32 0,.int .u32 0,.int .u32 0,.int .u32 0,.int .u32 0,.int .u32 0]:=rfl;rw[hz]at hw1;rw[hw1];obtain⟨b1,x1,x2⟩:=aQ hw1;have X1:=yH x1;have X2:=yH x2;have c0:w1.cell? ⟨w.heap.size,0,none⟩=some (.int .u32 (a.toNat:Int)):=x1.cell 0;have c1:w1.cell? ⟨w.heap.size,1,none⟩=some (.int .u32 (b.toNat:Int)):=x1.cell 1;have c2:w1.cell? ⟨w.heap.size,2,none⟩=some (.int .u32 (c.toNat:Int)):=x1.cell 2;have c3:w1.cell? ⟨w.heap.size,3,none⟩=some (.int .u32 (d.toNat:Int)):=x1.cell 3;have c4:w1.cell? ⟨w.heap.size,4,none⟩=some (.int .u32 (e.toNat:Int)):=x1.cell 4;have c5:w1.cell? ⟨w.heap.size,5,none⟩=some (.int .u32 (f.toNat:Int)):=x1.cell 5;have c6:w1.cell? ⟨w.heap.size,6,none⟩=some (.int .u32 (g.toNat:Int)):=x1.cell 6;have c7:w1.cell? ⟨w.heap.size,7,none⟩=some (.int .u32 (k.toNat:Int)):=x1.cell 7;clear hw1 x1 x2 hz
 go_wp2_with fail
 go_quiet ((go_at_call 233;refine Calls.quiet_of_same (LW _ _ (by decide) (by decide) _)))
 go_wp2_with fail;obtain⟨w2,hw2⟩:∃W,w1.drewN nq=W:=⟨_,rfl⟩;rw[hw2];have dn:Dn w1 w2:=⟨nq,hw2.symm⟩;have X12:=yH (X1.out.dn dn);have X22:=yH (X2.out.dn dn);have b2:=yH (b1.trans (dn.below.mono b1.size));have a0:=c0;have a1:=c1;have a2:=c2;have a3:=c3;have a4:=c4;have a5:=c5;have a6:=c6;rw[←dn.cell]at a0 a1 a2 a3 a4 a5 a6;clear c0 c1 c2 c3 c4 c5 c6 c7 hw2 dn nq
 go_quiet ((go_at_call 233;refine Calls.quiet_of_same (LW _ _ (by decide) (by decide) _)));obtain⟨w3,hw3⟩:∃W,w2.drewN nq=W:=⟨_,rfl⟩;rw[hw3];have dn:Dn w2 w3:=⟨nq,hw3.symm⟩;have yE:=yH (X22.out.dn dn);have b3:=yH (b2.out.trans (dn.below.mono b2.out.size));have c0:=a0;have c1:=a1;have c2:=a2;have c3:=a3;have c4:=a4;have c5:=a5;have c6:=a6;rw[←dn.cell]at c0 c1 c2 c3 c4 c5 c6;clear a0 a1 a2 a3 a4 a5 a6 hw3 dn nq;have r0:w3.cell? ⟨w.heap.size+1,0,none⟩=some (.int .u32 0):=yE.out.cell 0;have f0:=yE.out.frozen 0;have r1:w3.cell? ⟨w.heap.size+1,1,none⟩=some (.int .u32 0):=yE.out.cell 1;have f1:=yE.out.frozen 1;have r2:w3.cell? ⟨w.heap.size+1,2,none⟩=some (.int .u32 0):=yE.out.cell 2;have f2:=yE.out.frozen 2;have r3:w3.cell? ⟨w.heap.size+1,3,none⟩=some (.int .u32 0):=yE.out.cell 3;have f3:=yE.out.frozen 3;have r4:w3.cell? ⟨w.heap.size+1,4,none⟩=some (.int .u32 0):=yE.out.cell 4;have f4:=yE.out.frozen 4;have r5:w3.cell? ⟨w.heap.size+1,5,none⟩=some (.int .u32 0):=yE.out.cell 5;have f5:=yE.out.frozen 5;have r6:w3.cell? ⟨w.heap.size+1,6,none⟩=some (.int .u32 0):=yE.out.cell 6;have f6:=yE.out.frozen 6;have r7:w3.cell? ⟨w.heap.size+1,7,none⟩=some (.int .u32 0):=yE.out.cell 7;have f7:=yE.out.frozen 7;have ht1:t1 ⟨a,b,c,d,e,f,g,k⟩ r x=((k+((rr e 6 ^^^ rr e 11) ^^^ rr e 25))+((e &&& f) ||| (~~~e &&& g)))+y:=by
  rw[←HY.out,ZH,ZF];rfl
 have ht2:t2 ⟨a,b,c,d,e,f,g,k⟩=((rr a 2 ^^^ rr a 13) ^^^ rr a 22)+(((a &&& b) ||| (a &&& c)) ||| (b &&& c)):=(by rw[ZG];rfl);have h0:(((k.toNat:Int)+bits .xor .u32 (bits .xor .u32 ((rr e 6).toNat:Int) ((rr e 11).toNat:Int)) ((rr e 25).toNat:Int)+bits .or .u32 (bits .and .u32 (e.toNat:Int) (f.toNat:Int)) (bits .and .u32 (bits .xor .u32 IntKind.u32.max (e.toNat:Int)) (g.toNat:Int))+(y.toNat:Int))+(bits .xor .u32 (bits .xor .u32 ((rr a 2).toNat:Int) ((rr a 13).toNat:Int)) ((rr a 22).toNat:Int)+bits .or .u32 (bits .or .u32 (bits .and .u32 (a.toNat:Int) (b.toNat:Int)) (bits .and .u32 (a.toNat:Int) (c.toNat:Int))) (bits .and .u32 (b.toNat:Int) (c.toNat:Int)))) % 4294967296=((t1 ⟨a,b,c,d,e,f,g,k⟩ r x+t2 ⟨a,b,c,d,e,f,g,k⟩).toNat:Int):=(by simp only[wE,GY,IV,bn];rw[ht1,ht2];simp only[BitVec.toNat_add];omega);have h4:((d.toNat:Int)+((k.toNat:Int)+bits .xor .u32 (bits .xor .u32 ((rr e 6).toNat:Int) ((rr e 11).toNat:Int)) ((rr e 25).toNat:Int)+bits .or .u32 (bits .and .u32 (e.toNat:Int) (f.toNat:Int)) (bits .and .u32 (bits .xor .u32 IntKind.u32.max (e.toNat:Int)) (g.toNat:Int))+(y.toNat:Int))) % 4294967296=((d+t1 ⟨a,b,c,d,e,f,g,k⟩ r x).toNat:Int):=(by simp only[wE,GY,IV,bn];rw[ht1];simp only[BitVec.toNat_add];omega);have H0:=yH h0;have H4:=yH h4;clear ht1 ht2 h0 h4
 go_wp2_with fail;rw[H0.out,H4.out];obtain⟨WF,oW⟩:∃X,((((((((w3.setCell ⟨w.heap.size+1,0,none⟩ (.int .u32 ((t1 ⟨a,b,c,d,e,f,g,k⟩ r x+t2 ⟨a,b,c,d,e,f,g,k⟩).toNat:Int))).setCell ⟨w.heap.size+1,1,none⟩ (.int .u32 (a.toNat:Int))).setCell ⟨w.heap.size+1,2,none⟩ (.int .u32 (b.toNat:Int))).setCell ⟨w.heap.size+1,3,none⟩ (.int .u32 (c.toNat:Int))).setCell ⟨w.heap.size+1,4,none⟩ (.int .u32 ((d+t1 ⟨a,b,c,d,e,f,g,k⟩ r x).toNat:Int))).setCell ⟨w.heap.size+1,5,none⟩ (.int .u32 (e.toNat:Int))).setCell ⟨w.heap.size+1,6,none⟩ (.int .u32 (f.toNat:Int))).setCell ⟨w.heap.size+1,7,none⟩ (.int .u32 (g.toNat:Int)))=X:=⟨_,rfl⟩;rw[oW];have yf:Bx WF (w.heap.size+1) #[.int .u32 ((t1 ⟨a,b,c,d,e,f,g,k⟩ r x+t2 ⟨a,b,c,d,e,f,g,k⟩).toNat:Int),.int .u32 (a.toNat:Int),.int .u32 (b.toNat:Int),.int .u32 (c.toNat:Int),.int .u32 ((d+t1 ⟨a,b,c,d,e,f,g,k⟩ r x).toNat:Int),.int .u32 (e.toNat:Int),.int .u32 (f.toNat:Int),.int .u32 (g.toNat:Int)] 208:=by
  have:=((((((((yE.out.set 0 (.int .u32 ((t1 ⟨a,b,c,d,e,f,g,k⟩ r x+t2 ⟨a,b,c,d,e,f,g,k⟩).toNat:Int))).set 1 (.int .u32 (a.toNat:Int))).set 2 (.int .u32 (b.toNat:Int))).set 3 (.int .u32 (c.toNat:Int))).set 4 (.int .u32 ((d+t1 ⟨a,b,c,d,e,f,g,k⟩ r x).toNat:Int))).set 5 (.int .u32 (e.toNat:Int))).set 6 (.int .u32 (f.toNat:Int))).set 7 (.int .u32 (g.toNat:Int)));rw[oW]at this;exact this
 have kf:Below w.heap.size w WF:=(by rw[←oW];exact((((((((b3.out.setCell (p:=⟨w.heap.size+1,0,none⟩) (Nat.le_succ _) (.int .u32 ((t1 ⟨a,b,c,d,e,f,g,k⟩ r x+t2 ⟨a,b,c,d,e,f,g,k⟩).toNat:Int))).setCell (p:=⟨w.heap.size+1,1,none⟩) (Nat.le_succ _) (.int .u32 (a.toNat:Int))).setCell (p:=⟨w.heap.size+1,2,none⟩) (Nat.le_succ _) (.int .u32 (b.toNat:Int))).setCell (p:=⟨w.heap.size+1,3,none⟩) (Nat.le_succ _) (.int .u32 (c.toNat:Int))).setCell (p:=⟨w.heap.size+1,4,none⟩) (Nat.le_succ _) (.int .u32 ((d+t1 ⟨a,b,c,d,e,f,g,k⟩ r x).toNat:Int))).setCell (p:=⟨w.heap.size+1,5,none⟩) (Nat.le_succ _) (.int .u32 (e.toNat:Int))).setCell (p:=⟨w.heap.size+1,6,none⟩) (Nat.le_succ _) (.int .u32 (f.toNat:Int))).setCell (p:=⟨w.heap.size+1,7,none⟩) (Nat.le_succ _) (.int .u32 (g.toNat:Int))));clear oW;have hlv:=run_loadVar_mid (P:=Tryz.prog) WF (w.heap.size+1) 0 208 [.int .u32 ((t1 ⟨a,b,c,d,e,f,g,k⟩ r x+t2 ⟨a,b,c,d,e,f,g,k⟩).toNat:Int),.int .u32 (a.toNat:Int),.int .u32 (b.toNat:Int),.int .u32 (c.toNat:Int),.int .u32 ((d+t1 ⟨a,b,c,d,e,f,g,k⟩ r x).toNat:Int),.int .u32 (e.toNat:Int),.int .u32 (f.toNat:Int),.int .u32 (g.toNat:Int)] _ yf.range Tryz.underlying208 rfl (by kernel_rfl);refine bodyPost_ret (v:=.agg #[.int .u32 ((t1 ⟨a,b,c,d,e,f,g,k⟩ r x+t2 ⟨a,b,c,d,e,f,g,k⟩).toNat:Int),.int .u32 (a.toNat:Int),.int .u32 (b.toNat:Int),.int .u32 (c.toNat:Int),.int .u32 ((d+t1 ⟨a,b,c,d,e,f,g,k⟩ r x).toNat:Int),.int .u32 (e.toNat:Int),.int .u32 (f.toNat:Int),.int .u32 (g.toNat:Int)]) (ai Tryz.results213 rfl hlv) rfl ⟨?_,kf⟩;rw[HN.out]
end kD

namespace kD
open Go.RowKit Mem ku
def Qq:List Int:=[1116352408,1899447441,3049323471,3921009573,961987163,1508970993,2453635748,2870763221,3624381080,310598401,607225278,1426881987,1925078388,2162078206,2614888103,3248222580,3835390401,4022224774,264347078,604807628,770255983,1249150122,1555081692,1996064986,2554220882,2821834349,2952996808,3210313671,3336571891,3584528711,113926993,338241895,666307205,773529912,1294757372,1396182291,1695183700,1986661051,2177026350,2456956037,2730485921,2820302411,3259730800,3345764771,3516065817,3600352804,4094571909,275423344,430227734,506948616,659060556,883997877,958139571,1322822218,1537002063,1747873779,1955562222,2024104815,2227730452,2361852424,2428436474,2756734187,3204031479,3329325298]
def Vr:List Int:=[1779033703,3144134277,1013904242,2773480762,1359893119,2600822924,528734635,1541459225]
def dZ(j:Nat):BitVec 32:=BitVec.ofInt 32 (Qq.getD j 0)
def iZ(j:Nat):BitVec 32:=BitVec.ofInt 32 (Vr.getD j 0)
def nJ:List Value:=Qq.map fun n=>.int .u32 n
theorem yF:nJ=(List.range 64).map fun j=>Value.int .u32 ((dZ j).toNat:Int):=by kernel_rfl
theorem Vs:(#[.int .u32 1779033703,.int .u32 3144134277,.int .u32 1013904242,.int .u32 2773480762,.int .u32 1359893119,.int .u32 2600822924,.int .u32 528734635,.int .u32 1541459225]:Array Value)=(hc iZ).toArray:=by kernel_rfl
set_option maxRecDepth 20000 in
theorem Vt(w:World):Calls Tryz.prog 180 #[] w fun e w'=>e = .returned (.agg (hc iZ).toArray)/\Below w.heap.size w w':=by
 rw[←Vs]
 go_enter Tryz.func180,Tryz.ntmps180
 go_wp2_with fail;obtain⟨WF,oW⟩:∃X,w.alloc (.cells #[.int .u32 1779033703,.int .u32 3144134277,.int .u32 1013904242,.int .u32 2773480762,.int .u32 1359893119,.int .u32 2600822924,.int .u32 528734635,.int .u32 1541459225] 208)=X:=⟨_,rfl⟩;rw[oW];obtain⟨b1,x1⟩:=af oW;clear oW;have hlv:=run_loadVar_mid (P:=Tryz.prog) WF w.heap.size 0 208 [.int .u32 1779033703,.int .u32 3144134277,.int .u32 1013904242,.int .u32 2773480762,.int .u32 1359893119,.int .u32 2600822924,.int .u32 528734635,.int .u32 1541459225] _ x1.range Tryz.underlying208 rfl (by kernel_rfl);exact bodyPost_ret (v:=.agg #[.int .u32 1779033703,.int .u32 3144134277,.int .u32 1013904242,.int .u32 2773480762,.int .u32 1359893119,.int .u32 2600822924,.int .u32 528734635,.int .u32 1541459225]) (ai Tryz.results180 rfl hlv) rfl ⟨rfl,b1⟩
set_option maxRecDepth 20000 in
theorem Vu(w:World):Calls Tryz.prog 212 #[] w fun e w'=>e = .returned (.agg nJ.toArray)/\Below w.heap.size w w':=by
 go_enter Tryz.func212,Tryz.ntmps212
 go_wp2_with (first|(refine wpList_store_mid (by rfl) 265 _ _ (by rfl) w.heap.size 0 nJ.toArray (by rfl) (by rfl) ?h4 ?h5 ?h6 ?_;rotate_right;refine Mem.named ?_;intro W hW))
 case h4=>first|exact(Bx.new w _ _).there 64 (by kernel_rfl)|exact(Bx.new w _ _).there _ (by kernel_rfl)
 case h5=>kernel_rfl
 case h6=>kernel_rfl
 have hb:Below w.heap.size w W:=(by rw[←hW];exact Any.jg (Nat.le_refl _) _ _ ((Below.refl _ w).alloc (Nat.le_refl _) _));have hrg:W.rangeAt w.heap.size 0 nJ:=(by rw[←hW];exact World.rangeAt_setCells_same _ _ _ nJ ((Bx.new w _ _).there _ (by kernel_rfl)));clear hW;have hlv:=run_loadVar_mid (P:=Tryz.prog) W w.heap.size 0 265 nJ _ hrg Tryz.underlying265 rfl (by kernel_rfl);exact bodyPost_ret (v:=.agg nJ.toArray) (ai Tryz.results212 rfl hlv) rfl ⟨rfl,hb⟩
end kD

namespace kD
open Go.RowKit Mem ku
theorem Vw(x y w7 w16:BitVec 32):((g1 y+w7)+g0 x)+w16=((w16+g0 x)+w7)+g1 y:=by ac_rfl
theorem Vx(b:Nat->BitVec 8)(k m:Nat):((LV b k m:Nat):Int)*256 % 4294967296+((b (4*k+m)).toNat:Int)=((LV b k (m+1):Nat):Int):=by
 rw[show LV b k (m+1)=(LV b k m*256+(b (4*k+m)).toNat) % 4294967296 from rfl];have:=(b (4*k+m)).isLt;omega
def z64:Array Value:=#[.int .u32 0,.int .u32 0,.int .u32 0,.int .u32 0,.int .u32 0,.int .u32 0,.int .u32 0,.int .u32 0,.int .u32 0,.int .u32 0,.int .u32 0,.int .u32 0,.int .u32 0,.int .u32 0,.int .u32 0,.int .u32 0,.int .u32 0,.int .u32 0,.int .u32 0,.int .u32 0,.int .u32 0,.int .u32 0,.int .u32 0,.int .u32 0,.int .u32 0,.int .u32 0,.int .u32 0,.int .u32 0,.int .u32 0,.int .u32 0,.int .u32 0,.int .u32 0,.int .u32 0,.int .u32 0,.int .u32 0,.int .u32 0,.int .u32 0,.int .u32 0,.int .u32 0,.int .u32 0,.int .u32 0,.int .u32 0,.int .u32 0,.int .u32 0,.int .u32 0,.int .u32 0,.int .u32 0,.int .u32 0,.int .u32 0,.int .u32 0,.int .u32 0,.int .u32 0,.int .u32 0,.int .u32 0,.int .u32 0,.int .u32 0,.int .u32 0,.int .u32 0,.int .u32 0,.int .u32 0,.int .u32 0,.int .u32 0,.int .u32 0,.int .u32 0]
theorem Qr(j:Nat)(hj:j<64):z64[j]? = some (.int .u32 ((0:Nat):Int)):=by
 have h:z64=Array.replicate 64 (.int .u32 0):=(by kernel_rfl);rw[h,Array.getElem?_replicate,if_pos hj];rfl
set_option maxRecDepth 20000 in
theorem dU(b:Nat->BitVec 8)(w:World):Calls Tryz.prog 211 #[.agg (bc b).toArray] w fun e w'=>e = .returned (.agg (wc b).toArray)/\Below w.heap.size w w':=by
 obtain⟨BC,PL⟩:∃BC,(bc b).toArray=BC:=⟨_,rfl⟩;have HC:=yH (show BC.size=64/\∀j,j<64->BC[j]? = some (.int .u8 ((b j).toNat:Int))from⟨by rw[←PL];simp[iK],fun j hj=>by rw[←PL];simpa using zZ b j hj⟩);rw[PL];clear PL
 go_enter Tryz.func211,Tryz.ntmps211
 go_wp2_with fail;refine Mem.named ?_;intro w1 hw1;have hw2:((w.alloc (.cells BC 170)).alloc (.cells z64 265)).alloc (.cells z64 265)=w1:=hw1;clear hw1;have zs:w1.heap.size=w.heap.size+3:=(by rw[←hw2];simp);have B1:Below w.heap.size w w1:=by
  rw[←hw2];exact(((Below.refl _ w).alloc (Nat.le_refl _) _).alloc (by simp) _).alloc (by simp;omega) _
 have X1:Bx w1 w.heap.size BC 170:=(by rw[←hw2];exact((Bx.new w _ _).alloc _).alloc _);have X2:Bx w1 (w.heap.size+1) z64 265:=by
  rw[←hw2];have:=(Bx.new (w.alloc (.cells BC 170)) z64 265).alloc (.cells z64 265)
  simpa using this
 have X3:Bx w1 (w.heap.size+1+1) z64 265:=by
  rw[←hw2];have:=Bx.new ((w.alloc (.cells BC 170)).alloc (.cells z64 265)) z64 265
  simpa using this
 have HW1:=yH (show Wd (w.heap.size+1+1) b 0 0 w1 from⟨fun j hj=>by rw[X3.cell,Qo];exact Qr j hj,fun j=>X3.frozen j⟩);have Vy:=yH X1;have ZJ:=yH X2;clear hw2 X1 X2 X3 zs
 go_loopw [4,5,6,7,8,9] (fun i _ _ _ _ _ wr=>∃k:Nat,k<=64/\i = .int .i64 k/\Hid (Wd (w.heap.size+1+1) b k 0 wr)/\Hid (Bx wr w.heap.size BC 170)/\Hid (Bx wr (w.heap.size+1) z64 265)/\Below w.heap.size w wr) (fun i _ _ _ _ _ _=>64-(intOf i).toNat)
 case atStart=>exact⟨0,Nat.zero_le _,rfl,HW1,Vy,ZJ,B1⟩
 case round =>
  obtain⟨k,hk,rfl,HD,HA,HB,bk⟩:=hrel;clear HW1 Vy ZJ B1;have e0:(0:Int)<=(k:Int):=Int.natCast_nonneg _;by_cases hlt:k<64
  ·have e1:(k:Int)<64:=(by omega);by_cases h16:k<16
   ·have e2:(k:Int)<16:=(by omega)
    go_wp2_with fail
    go_loopw [5] (fun j wr=>∃m:Nat,m<=4/\j = .int .i64 m/\Hid (Wd (w.heap.size+1+1) b k m wr)/\Hid (Bx wr w.heap.size BC 170)/\Hid (Bx wr (w.heap.size+1) z64 265)/\Below w.heap.size w wr) (fun j _=>4-(intOf j).toNat)
    case atStart=>exact⟨0,Nat.zero_le _,rfl,HD,HA,HB,bk⟩
    case round =>
     obtain⟨m,hm,rfl,HD2,HA2,HB2,bm⟩:=hrel;clear HD HA HB bk;have f0:(0:Int)<=(m:Int):=Int.natCast_nonneg _;by_cases hlm:m<4
     ·have f1:(m:Int)<4:=(by omega);have c0:=HD2.out.now hlt;have c1:wr.cell? ⟨w.heap.size,4*k+m,none⟩=some (.int .u8 ((b (4*k+m)).toNat:Int)):=(by rw[HA2.out.cell];exact HC.out.2 _ (by omega));have c2:=HD2.out.f k;have uA:=yH (Vx b k m)
      go_wp2_with fail
      go_region
      go_wp2_with fail;rw[uA.out]
      go_roundw
      case rel =>
       have hp:=HD2.out.put hlt;have hbz:=(bm.setCell (p:=⟨w.heap.size+1+1,k,none⟩) (show w.heap.size<=w.heap.size+1+1 by omega) (.int .u32 ((LV b k (m+1):Nat):Int))).drew;exact⟨m+1,by omega,by go_num,yH (hp.heap rfl),yH ((HA2.out.aH (p:=⟨w.heap.size+1+1,k,none⟩) _ (by show w.heap.size≠w.heap.size+1+1;omega)).dn ⟨1,rfl⟩),yH ((HB2.out.aH (p:=⟨w.heap.size+1+1,k,none⟩) _ (by show w.heap.size+1≠w.heap.size+1+1;omega)).dn ⟨1,rfl⟩),hbz⟩
      case measure=>simp[intOf];omega
     ·obtain rfl:m=4:=(by omega)
      go_wp2_with fail
      go_roundw
      case rel=>exact⟨k+1,by omega,by go_num,yH (HD2.out.up h16),HA2,HB2,bm⟩
      case measure=>simp[intOf];omega
   ·have e2:¬(k:Int)<16:=(by omega);have q15:IntKind.i64.wrap ((k:Int)-15)=((k-15:Nat):Int):=(by rw[IntKind.wrap_i64];omega);have q16:IntKind.i64.wrap ((k:Int)-16)=((k-16:Nat):Int):=(by rw[IntKind.wrap_i64];omega);have q2:IntKind.i64.wrap ((k:Int)-2)=((k-2:Nat):Int):=(by rw[IntKind.wrap_i64];omega);have q7:IntKind.i64.wrap ((k:Int)-7)=((k-7:Nat):Int):=(by rw[IntKind.wrap_i64];omega);have b15:((k-15:Nat):Int)<64:=(by omega);have b16:((k-16:Nat):Int)<64:=(by omega);have b2:((k-2:Nat):Int)<64:=(by omega);have b7:((k-7:Nat):Int)<64:=(by omega);have x0:=HD.out.done (show k-16<k by omega) (by omega);have x1:=HD.out.done (show k-15<k by omega) (by omega);have x2:=HD.out.done (show k-7<k by omega) (by omega);have x3:=HD.out.done (show k-2<k by omega) (by omega);have y0:=HD.out.now hlt;have yf:=HD.out.f k
    go_wp2_with (go_at_call 233;refine Calls.mono (LW _ _ (by decide) (by decide) _) ?_;rintro e w' ⟨rfl,rfl⟩)
    go_region
    go_wp2_with fail
    go_roundw
    case rel =>
     simp only[LY,GZ,wE,EY];rw[show(rr (ws b (k-2)) 17 ^^^ rr (ws b (k-2)) 19 ^^^ ws b (k-2) >>> 10)+ws b (k-7)+(rr (ws b (k-15)) 7 ^^^ rr (ws b (k-15)) 18 ^^^ ws b (k-15) >>> 3)+ws b (k-16)=ws b k from by
      rw[TC b k h16,←Vw];rfl]
     have hp:=HD.out.hi hlt;have hbz:=(bk.setCell (p:=⟨w.heap.size+1+1,k,none⟩) (show w.heap.size<=w.heap.size+1+1 by omega) (.int .u32 ((ws b k).toNat:Int))).drew;exact⟨k+1,by omega,by go_num,yH (hp.heap rfl),yH ((HA.out.aH (p:=⟨w.heap.size+1+1,k,none⟩) _ (by show w.heap.size≠w.heap.size+1+1;omega)).dn ⟨1,rfl⟩),yH ((HB.out.aH (p:=⟨w.heap.size+1+1,k,none⟩) _ (by show w.heap.size+1≠w.heap.size+1+1;omega)).dn ⟨1,rfl⟩),hbz⟩
    case measure=>simp[intOf];omega
  ·obtain rfl:k=64:=(by omega);obtain⟨WC,LZ⟩:∃WC,wc b=WC:=⟨_,rfl⟩;have ZK:WC.length=64:=(by rw[←LZ];simp[wc]);have ZL:∀v∈WC,v.oneCell'=true:=fun v hv=>by
    rw[←LZ]at hv;obtain⟨j,_,rfl⟩:=List.mem_map.1 hv;rfl
   have Ye:=HD.out.range;rw[LZ]at Ye;have HWC:=yH LZ;have ZM:=yH ZK;have HWO:=yH ZL;clear LZ ZK ZL
   go_wp2_with (first|(refine wpList_load_mid rfl 265 _ (by rfl) (w.heap.size+1+1) 0 (by rfl) WC _ Ye Tryz.underlying265 rfl ?hlen2 ?_)|(refine wpList_store_mid (by rfl) 265 _ _ (by rfl) (w.heap.size+1) 0 WC.toArray (by rfl) (by rfl) ?h4 ?h5 ?h6 ?_;rotate_right))
   case hlen2=>rw[ZM.out];kernel_rfl
   case h4=>exact HB.out.there _ (by rw[show WC.toArray.size=64 by rw[List.size_toArray,ZM.out]];rfl)
   case h5=>rw[List.size_toArray,ZM.out];kernel_rfl
   case h6=>exact all_oneCell_toArray HWO.out
   have hfin:(wr.setCells (w.heap.size+1) 0 WC).rangeAt (w.heap.size+1) 0 WC:=World.rangeAt_setCells_same _ _ _ _ (HB.out.there _ (by rw[ZM.out];rfl));have hlv:=run_loadVar_mid (P:=Tryz.prog) _ (w.heap.size+1) 0 265 WC _ hfin Tryz.underlying265 rfl (by rw[ZM.out];kernel_rfl);refine bodyPost_ret (v:=.agg WC.toArray) (ai Tryz.results211 rfl hlv) rfl ⟨by rw[HWC.out],?_⟩;exact bk.grown (dB _ _ _ _) bk.size (fun k e=>by have:=Option.some.inj e;omega)
end kD

namespace kD
open Go.RowKit Mem ku
def vf(s:V8):Nat->BitVec 32
 | 0=>s.a|1=>s.b|2=>s.c|3=>s.d|4=>s.e|5=>s.f|6=>s.g|_=>s.k
theorem TD(s:V8):LX s=(hc (vf s)).toArray:=by rw[EZ];rfl
theorem ZN(rc h:Nat->BitVec 32)(b:Nat->BitVec 8)(j:Nat)(hj:j<8):hb rc h b j=vf (rounds rc h b 64) j+h j:=by
 match j,hj with
 | 0,_=>exact BitVec.add_comm _ _
 | 1,_=>exact BitVec.add_comm _ _
 | 2,_=>exact BitVec.add_comm _ _
 | 3,_=>exact BitVec.add_comm _ _
 | 4,_=>exact BitVec.add_comm _ _
 | 5,_=>exact BitVec.add_comm _ _
 | 6,_=>exact BitVec.add_comm _ _
 | 7,_=>exact BitVec.add_comm _ _
theorem qK{f g:Nat->BitVec 32}(h:∀j,j<8->f j=g j):hc f=hc g:=by
 unfold hc;exact List.map_congr_left fun j hj=>by rw[h j (List.mem_range.1 hj)]
/-- the words behind the first n sums -/
def sums(rc h:Nat->BitVec 32)(b:Nat->BitVec 8)(n j:Nat):BitVec 32:=if j<n then hb rc h b j else vf (rounds rc h b 64) j
theorem Aa(h:Nat->BitVec 32):∀v∈hc h,v.oneCell'=true:=fun v hv=>by
 obtain⟨j,_,rfl⟩:=List.mem_map.1 hv;rfl
theorem Vz(h:Nat->BitVec 32)(j:Nat)(hj:j<8)(x:BitVec 32):(hc h).toArray.setIfInBounds j (.int .u32 (x.toNat:Int))=(hc fun i=>if i=j then x else h i).toArray:=by
 rw[List.setIfInBounds_toArray];congr 1;refine List.ext_getElem (by simp[hc]) (fun i h1 h2=>?_);rw[List.getElem_set];simp only[hc,List.getElem_map,List.getElem_range];by_cases e:j=i
 ·subst e;rw[if_pos rfl,if_pos rfl]
 ·rw[if_neg e,if_neg (fun h=>e h.symm)]
theorem zci{w:World}{P:Nat}{s:V8}{t:TypeId}(X:Bx w P (LX s) t)(n:V8):Bx ((((((((w.setCell ⟨P,0,none⟩ (.int .u32 (n.a.toNat:Int))).setCell ⟨P,1,none⟩ (.int .u32 (n.b.toNat:Int))).setCell ⟨P,2,none⟩ (.int .u32 (n.c.toNat:Int))).setCell ⟨P,3,none⟩ (.int .u32 (n.d.toNat:Int))).setCell ⟨P,4,none⟩ (.int .u32 (n.e.toNat:Int))).setCell ⟨P,5,none⟩ (.int .u32 (n.f.toNat:Int))).setCell ⟨P,6,none⟩ (.int .u32 (n.g.toNat:Int))).setCell ⟨P,7,none⟩ (.int .u32 (n.k.toNat:Int))) P (LX n) t:=by
 have h:=(((((((X.set 0 (.int .u32 (n.a.toNat:Int))).set 1 (.int .u32 (n.b.toNat:Int))).set 2 (.int .u32 (n.c.toNat:Int))).set 3 (.int .u32 (n.d.toNat:Int))).set 4 (.int .u32 (n.e.toNat:Int))).set 5 (.int .u32 (n.f.toNat:Int))).set 6 (.int .u32 (n.g.toNat:Int))).set 7 (.int .u32 (n.k.toNat:Int))
 simpa[LX]using h
theorem Ac{t n:Nat}(h:(Tryz.prog.info? t).map (·.size)=some n):∃a,Tryz.prog.info? t=some a/\a.size=n:=by
 cases hq:Tryz.prog.info? t with
 | none=>rw[hq]at h;cases h
 | some a=>rw[hq]at h;exact⟨a,rfl,Option.some.inj h⟩
theorem uX:∃a,Tryz.prog.info? 170=some a/\a.size=64:=Ac (by kernel_rfl)
theorem jP:∃a,Tryz.prog.info? 208=some a/\a.size=8:=Ac (by kernel_rfl)
set_option maxRecDepth 20000 in
theorem E8(h:Nat->BitVec 32)(b:Nat->BitVec 8)(w:World):Calls Tryz.prog 181 #[.agg (hc h).toArray,.agg (bc b).toArray] w fun e w'=>e = .returned (.agg (hc (hb dZ h b)).toArray)/\Below w.heap.size w w':=by
 obtain⟨BL,hBL⟩:∃BL,bc b=BL:=⟨_,rfl⟩;have Qs:BL.length=64:=(by rw[←hBL,iK]);obtain⟨HL,hHL⟩:∃HL,hc h=HL:=⟨_,rfl⟩;have IW:HL.length=8:=(by rw[←hHL,dH]);have L6:∀v∈HL,v.oneCell'=true:=(by rw[←hHL];exact Aa h);have Yf:=yH hHL;have Qu:=yH hBL;have HWO:=yH (show ∀W,Calls Tryz.prog 211 #[.agg BL.toArray] W fun e w'=>e = .returned (.agg (wc b).toArray)/\Below W.heap.size W w' from fun W=>by rw[←hBL];exact dU b W);obtain⟨WC,LZ⟩:∃WC,wc b=WC:=⟨_,rfl⟩;have ZK:WC.length=64:=(by rw[←LZ];simp[wc]);have ZL:∀v∈WC,v.oneCell'=true:=fun v hv=>by
  rw[←LZ]at hv;obtain⟨j,_,rfl⟩:=List.mem_map.1 hv;rfl
 have HWg:=yH (show ∀j,j<64->WC[j]? = some (.int .u32 ((ws b j).toNat:Int))from fun j hj=>by rw[←LZ];simp[wc,hj]);obtain⟨CK,ZO⟩:∃CK,nJ=CK:=⟨_,rfl⟩;have hCl:CK.length=64:=(by rw[←ZO];rfl);have hCo:∀v∈CK,v.oneCell'=true:=fun v hv=>by
  rw[←ZO,yF]at hv;obtain⟨j,_,rfl⟩:=List.mem_map.1 hv;rfl
 have HCg:=yH (show ∀j,j<64->CK[j]? = some (.int .u32 ((dZ j).toNat:Int))from fun j hj=>by rw[←ZO,yF];simp[hj]);have HCK:=yH (show ∀W,Calls Tryz.prog 212 #[] W fun e w'=>e = .returned (.agg CK.toArray)/\Below W.heap.size W w' from fun W=>by rw[←ZO];exact Vu W);rw[hBL,hHL];rw[LZ]at HWO;have HBl:=yH Qs;have HHl:=yH IW;have HHo:=yH L6;have HWl:=yH ZK;have HWo:=yH ZL;have HCl:=yH hCl;have HCo:=yH hCo;clear hBL hHL Qs IW L6 LZ ZK ZL ZO hCl hCo
 go_enter Tryz.func181,Tryz.ntmps181;have hB0:Bx ((w.alloc (.cells HL.toArray 208)).alloc (.cells BL.toArray 170)) (w.heap.size+1) BL.toArray 170:=by
  have:=Bx.new (w.alloc (.cells HL.toArray 208)) BL.toArray 170
  simpa using this
 have hr0:=(hB0.alloc (.cells #[.int .u32 0,.int .u32 0,.int .u32 0,.int .u32 0,.int .u32 0,.int .u32 0,.int .u32 0,.int .u32 0] 208)).range
 go_wp2_with (refine wpList_load_mid rfl 170 _ (by rfl) (w.heap.size+1) 0 (by rfl) BL _ hr0 Tryz.underlying170 rfl ?hlen2 ?_)
 case hlen2=>first|exact uX|(rw[HBl.out];first|exact uX|kernel_rfl)
 clear hB0 hr0;refine ae fun w1 hw1=>?_
 have hw2:((w.alloc (.cells HL.toArray 208)).alloc (.cells BL.toArray 170)).alloc (.cells lq 208)=w1:=hw1;clear hw1;have B1:Below w.heap.size w w1:=(by rw[←hw2];exact(((Below.refl _ w).alloc (Nat.le_refl _) _).alloc (by simp) _).alloc (by simp;omega) _);have X2:Bx w1 w.heap.size HL.toArray 208:=(by rw[←hw2];exact((Bx.new w _ _).alloc _).alloc _);have X4:Bx w1 (w.heap.size+1+1) lq 208:=by
  rw[←hw2];have:=Bx.new ((w.alloc (.cells HL.toArray 208)).alloc (.cells BL.toArray 170)) lq 208
  simpa using this
 clear hw2;refine(HWO.out w1).mono ?_;rintro e w2 ⟨rfl,b2⟩;have B2:=B1.trans (b2.mono B1.size);have Y2:=X2.below b2;have Y4:=X4.below b2;clear X2 X4 B1 b2;have lt2:=Y2.lt;have lt4:=Y4.lt
 go_wp2_with (refine wpList_store_mid (by rfl) 265 _ _ (by rfl) w2.heap.size 0 WC.toArray (by rfl) (by rfl) ?h4 ?h5 ?h6 ?_;rotate_right;refine Mem.named ?_;intro w3 hw3;have hw4:(w2.alloc (.cells z64 265)).setCells w2.heap.size 0 WC=w3:=hw3;clear hw3)
 case h4=>first|exact(Bx.new w2 z64 265).there 64 (by kernel_rfl)|exact(Bx.new w2 z64 265).there _ (by rw[show WC.toArray.size=64 by rw[List.size_toArray,HWl.out]];kernel_rfl)
 case h5=>first|exact VA|(rw[List.size_toArray,HWl.out];kernel_rfl)
 case h6=>exact all_oneCell_toArray HWo.out
 have b3:=Any.aX hw4;have r3:=Any.aZ hw4 (by rw[HWl.out];kernel_rfl);clear hw4;have H5:=yH (show ∀j,j<64->w3.cell? ⟨w2.heap.size,j,none⟩=some (.int .u32 ((ws b j).toNat:Int))from fun j hj=>by have:=r3 j _ (HWg.out j hj);simpa using this);have l3:w2.heap.size<w3.heap.size:=World.block_lt_of_cell? w3 ⟨w2.heap.size,0,none⟩ (H5.out 0 (by decide));have B3:=B2.trans (b3.mono B2.size);have Z2:=Y2.below b3;have Z4:=Y4.below b3;clear r3 b3 Y2 Y4 B2;refine(HCK.out w3).mono ?_;rintro e w4 ⟨rfl,b4⟩;have B4:=B3.trans (b4.mono B3.size);have Y2:=Z2.below b4;have Y4:=Z4.below b4;have H5':=yH (show ∀j,j<64->w4.cell? ⟨w2.heap.size,j,none⟩=some (.int .u32 ((ws b j).toNat:Int))from fun j hj=>(b4.cell l3).trans (H5.out j hj));have l4:=b4.size;clear b4 Z2 Z4 B3 H5;have hr2:=Y2.range
 go_wp2_with (first
  | (refine wpList_store_mid (by rfl) 265 _ _ (by rfl) w4.heap.size 0 CK.toArray (by rfl) (by rfl) ?k4 ?k5 ?k6 ?_;rotate_right;refine Mem.named ?_;intro w5 hw5;have hw6:(w4.alloc (.cells z64 265)).setCells w4.heap.size 0 CK=w5:=hw5;clear hw5;have b5:=Any.aX hw6;have r5:=Any.aZ hw6 (by rw[HCl.out];kernel_rfl);have hr5:w5.rangeAt w.heap.size 0 HL:=(Y2.below b5).range;clear hw6)
  | (refine wpList_load_mid rfl 208 _ (by rfl) w.heap.size 0 (by rfl) HL _ hr5 Tryz.underlying208 rfl ?hlen3 ?_)
  | (refine wpList_store_mid (by rfl) 208 _ _ (by rfl) w5.heap.size 0 HL.toArray (by rfl) (by rfl) ?m4 ?m5 ?m6 ?_;rotate_right;refine Mem.named ?_;intro w7 hw7;have hw8:(w5.alloc (.cells lq 208)).setCells w5.heap.size 0 HL=w7:=hw7;clear hw7))
 case hlen3=>first|exact jP|(rw[HHl.out];first|exact jP|kernel_rfl)
 case k4=>first|exact(Bx.new w4 z64 265).there 64 (by kernel_rfl)|exact(Bx.new w4 z64 265).there _ (by rw[show CK.toArray.size=64 by rw[List.size_toArray,HCl.out]];kernel_rfl)
 case k5=>first|exact VA|(rw[List.size_toArray,HCl.out];kernel_rfl)
 case k6=>exact all_oneCell_toArray HCo.out
 case m4=>first|exact(Bx.new w5 lq 208).there 8 (by kernel_rfl)|exact(Bx.new w5 lq 208).there _ (by rw[show HL.toArray.size=8 by rw[List.size_toArray,HHl.out]];kernel_rfl)
 case m5=>first|exact jP|(rw[List.size_toArray,HHl.out];kernel_rfl)
 case m6=>exact all_oneCell_toArray HHo.out
 have B5:=B4.trans (b5.mono B4.size);have l5:=b5.size;have X7:=St.lu hw8 (by rw[HHl.out];kernel_rfl);have b7:=Any.aX hw8;have B7:=B5.trans (b7.mono B5.size);have l7:=b7.size;have H5:=yH (show ∀j,j<64->w7.cell? ⟨w2.heap.size,j,none⟩=some (.int .u32 ((ws b j).toNat:Int))from fun j hj=>(b7.cell (p:=⟨w2.heap.size,j,none⟩) (by show w2.heap.size<_;omega)).trans ((b5.cell (p:=⟨w2.heap.size,j,none⟩) (by show w2.heap.size<_;omega)).trans (H5'.out j hj)));have H6:=yH (show ∀j,j<64->w7.cell? ⟨w4.heap.size,j,none⟩=some (.int .u32 ((dZ j).toNat:Int))from fun j hj=>by
  have h1:=r5 j _ (HCg.out j hj);rw[Nat.zero_add]at h1;exact(b7.cell (World.block_lt_of_cell? w5 _ h1)).trans h1)
 have Z2:=yH ((Y2.below b5).below b7);have Z4:=yH ((Y4.below b5).below b7);have Z7:=yH (show Bx w7 w5.heap.size (LX (rounds dZ h b 0)) 208 by rw[TD,show vf (rounds dZ h b 0)=vf (V8.of h)from rfl,show hc (vf (V8.of h))=hc h from qK (fun j hj=>by match j,hj with|0,_=>rfl|1,_=>rfl|2,_=>rfl|3,_=>rfl|4,_=>rfl|5,_=>rfl|6,_=>rfl|7,_=>rfl),Yf.out];exact X7);have l6:w4.heap.size<w5.heap.size:=(by have h1:=r5 0 _ (HCg.out 0 (by decide));exact World.block_lt_of_cell? w5 _ h1);have HL5:=yH (show w.heap.size+2<w2.heap.size/\w2.heap.size<w4.heap.size/\w4.heap.size<w5.heap.size/\w5.heap.size<w7.heap.size by have:=X7.lt;omega);clear X7 b5 b7 r5 hr5 hw8 Y2 Y4 H5' B4 B5 hr2 l3 l4 l5 l6 l7 lt2 lt4
 go_loopw [8] (fun i wr=>∃k:Nat,k<=64/\i = .int .i64 k/\Hid (Bx wr w5.heap.size (LX (rounds dZ h b k)) 208)/\Hid (∀j,j<64->wr.cell? ⟨w2.heap.size,j,none⟩=some (.int .u32 ((ws b j).toNat:Int)))/\Hid (∀j,j<64->wr.cell? ⟨w4.heap.size,j,none⟩=some (.int .u32 ((dZ j).toNat:Int)))/\Hid (Bx wr w.heap.size HL.toArray 208)/\Hid (Bx wr (w.heap.size+1+1) lq 208)/\Below w.heap.size w wr) (fun i _=>64-(intOf i).toNat)
 case atStart=>exact⟨0,Nat.zero_le _,rfl,Z7,H5,H6,Z2,Z4,B7⟩
 case round =>
  obtain⟨k,hk,rfl,Q7,Q5,Q6,Q2,Q4,bk⟩:=hrel;clear Z7 H5 H6 Z2 Z4 B7;have e0:(0:Int)<=(k:Int):=Int.natCast_nonneg _;by_cases hlt:k<64
  ·have e1:(k:Int)<64:=(by omega);have HS:=yH (show rounds dZ h b (k+1)=(rounds dZ h b k).next (dZ k) (ws b k)from rfl);obtain⟨s,hs⟩:∃s,rounds dZ h b k=s:=⟨_,rfl⟩;rw[hs]at Q7 HS;clear hs;obtain⟨sa,sb,sc,sd,se,sf,sg,sk⟩:=s;have c0:wr.cell? ⟨w5.heap.size,0,none⟩=some (.int .u32 (sa.toNat:Int)):=Q7.out.cell 0;have c1:wr.cell? ⟨w5.heap.size,1,none⟩=some (.int .u32 (sb.toNat:Int)):=Q7.out.cell 1;have c2:wr.cell? ⟨w5.heap.size,2,none⟩=some (.int .u32 (sc.toNat:Int)):=Q7.out.cell 2;have c3:wr.cell? ⟨w5.heap.size,3,none⟩=some (.int .u32 (sd.toNat:Int)):=Q7.out.cell 3;have c4:wr.cell? ⟨w5.heap.size,4,none⟩=some (.int .u32 (se.toNat:Int)):=Q7.out.cell 4;have c5:wr.cell? ⟨w5.heap.size,5,none⟩=some (.int .u32 (sf.toNat:Int)):=Q7.out.cell 5;have c6:wr.cell? ⟨w5.heap.size,6,none⟩=some (.int .u32 (sg.toNat:Int)):=Q7.out.cell 6;have c7:wr.cell? ⟨w5.heap.size,7,none⟩=some (.int .u32 (sk.toNat:Int)):=Q7.out.cell 7;have m5:=Q5.out k hlt;have m6:=Q6.out k hlt;obtain⟨X,hX⟩:∃X,ws b k=X:=⟨_,rfl⟩;obtain⟨R,hR⟩:∃R,dZ k=R:=⟨_,rfl⟩;rw[hX]at m5 HS;rw[hR]at m6 HS;have HX:=yH hX;have HR:=yH hR;clear hX hR;have HD0:=yH (show wr.drew.cell? ⟨w5.heap.size,0,none⟩=some (.int .u32 (sa.toNat:Int))/\wr.drew.cell? ⟨w5.heap.size,1,none⟩=some (.int .u32 (sb.toNat:Int))/\wr.drew.cell? ⟨w5.heap.size,2,none⟩=some (.int .u32 (sc.toNat:Int))/\wr.drew.cell? ⟨w5.heap.size,3,none⟩=some (.int .u32 (sd.toNat:Int))/\wr.drew.cell? ⟨w5.heap.size,4,none⟩=some (.int .u32 (se.toNat:Int))/\wr.drew.cell? ⟨w5.heap.size,5,none⟩=some (.int .u32 (sf.toNat:Int))/\wr.drew.cell? ⟨w5.heap.size,6,none⟩=some (.int .u32 (sg.toNat:Int))/\wr.drew.cell? ⟨w5.heap.size,7,none⟩=some (.int .u32 (sk.toNat:Int))from⟨c0,c1,c2,c3,c4,c5,c6,c7⟩)
   have hS:wr.drew.cell? ⟨w2.heap.size,k,none⟩=some (.int .u32 (X.toNat:Int))/\wr.drew.cell? ⟨w4.heap.size,k,none⟩=some (.int .u32 (R.toNat:Int)):=⟨m5,m6⟩;have hlS:w2.heap.size<wr.heap.size/\w4.heap.size<wr.heap.size:=⟨World.block_lt_of_cell? wr _ m5,World.block_lt_of_cell? wr _ m6⟩;clear c0 c1 c2 c3 c4 c5 c6 c7 m5 m6
   go_wp2_with fail;refine wp_region_held_drew (S:=fun W'=>W'.cell? ⟨w2.heap.size,k,none⟩=some (.int .u32 (X.toNat:Int))/\W'.cell? ⟨w4.heap.size,k,none⟩=some (.int .u32 (R.toNat:Int))) (by kernel_rfl) hS (fun hHeld=>?_);refine yT 1 ?_ (hy:=by intro w hSw;obtain⟨s1,s2⟩:=hSw;go_simp;try with_reducible rfl);refine yT 2 ?_ (hy:=by intro w hSw;obtain⟨s1,s2⟩:=hSw;go_simp;try with_reducible rfl);refine yT 3 ?_ (hy:=by intro w hSw;obtain⟨s1,s2⟩:=hSw;go_simp;try with_reducible rfl);refine yT 4 ?_ (hy:=by intro w hSw;obtain⟨s1,s2⟩:=hSw;go_simp;try with_reducible rfl);refine yT 5 ?_ (hy:=by intro w hSw;obtain⟨s1,s2⟩:=hSw;go_simp;try with_reducible rfl);refine yT 6 ?_ (hy:=by intro w hSw;obtain⟨s1,s2⟩:=hSw;go_simp;try with_reducible rfl);refine yT 7 ?_ (hy:=by intro w hSw;obtain⟨s1,s2⟩:=hSw;go_simp;try with_reducible rfl);obtain⟨d0,d1,d2,d3,d4,d5,d6,d7⟩:=HD0.out;refine yR 0 (fun K hK=>?_)
   go_simp;refine hK.out _ _ hS (fun hHeld=>?_);clear hK K d0 d1 d2 d3 d4 d5 d6 d7;refine yR 8 (fun K hK=>?_)
   go_simp;rw[IntKind.wrap_u32,yG]
   go_at_call 213;refine(ZI ⟨sa,sb,sc,sd,se,sf,sg,sk⟩ R X wr.drew).mono ?_;rintro e w9 ⟨rfl,b9⟩;have c9:Below wr.heap.size wr w9:=Copy.ax b9;have hS9:w9.cell? ⟨w2.heap.size,k,none⟩=some (.int .u32 (X.toNat:Int))/\w9.cell? ⟨w4.heap.size,k,none⟩=some (.int .u32 (R.toNat:Int)):=⟨(c9.cell hlS.1).trans hS.1,(c9.cell hlS.2).trans hS.2⟩;have V7:=yH (Q7.out.below c9);rw[←HS.out];obtain⟨n,hn⟩:∃n,rounds dZ h b (k+1)=n:=⟨_,rfl⟩;rw[hn];have HN:=yH hn;clear hn HS;have n0:=V7.out.frozen 0;have n1:=V7.out.frozen 1;have n2:=V7.out.frozen 2;have n3:=V7.out.frozen 3;have n4:=V7.out.frozen 4;have n5:=V7.out.frozen 5;have n6:=V7.out.frozen 6;have n7:=V7.out.frozen 7;have o0:w9.cell? ⟨w5.heap.size,0,none⟩=some (.int .u32 (sa.toNat:Int)):=V7.out.cell 0;have o1:w9.cell? ⟨w5.heap.size,1,none⟩=some (.int .u32 (sb.toNat:Int)):=V7.out.cell 1;have o2:w9.cell? ⟨w5.heap.size,2,none⟩=some (.int .u32 (sc.toNat:Int)):=V7.out.cell 2;have o3:w9.cell? ⟨w5.heap.size,3,none⟩=some (.int .u32 (sd.toNat:Int)):=V7.out.cell 3;have o4:w9.cell? ⟨w5.heap.size,4,none⟩=some (.int .u32 (se.toNat:Int)):=V7.out.cell 4;have o5:w9.cell? ⟨w5.heap.size,5,none⟩=some (.int .u32 (sf.toNat:Int)):=V7.out.cell 5;have o6:w9.cell? ⟨w5.heap.size,6,none⟩=some (.int .u32 (sg.toNat:Int)):=V7.out.cell 6;have o7:w9.cell? ⟨w5.heap.size,7,none⟩=some (.int .u32 (sk.toNat:Int)):=V7.out.cell 7;refine hK.out _ _ hS9 (fun hHeld=>?_);clear hK K;unfold LX;refine yR 9 (fun K hK=>?_)
   go_simp;have hset:=zci V7.out n;obtain⟨WF,oW⟩:∃X,((((((((w9.setCell ⟨w5.heap.size,0,none⟩ (.int .u32 (n.a.toNat:Int))).setCell ⟨w5.heap.size,1,none⟩ (.int .u32 (n.b.toNat:Int))).setCell ⟨w5.heap.size,2,none⟩ (.int .u32 (n.c.toNat:Int))).setCell ⟨w5.heap.size,3,none⟩ (.int .u32 (n.d.toNat:Int))).setCell ⟨w5.heap.size,4,none⟩ (.int .u32 (n.e.toNat:Int))).setCell ⟨w5.heap.size,5,none⟩ (.int .u32 (n.f.toNat:Int))).setCell ⟨w5.heap.size,6,none⟩ (.int .u32 (n.g.toNat:Int))).setCell ⟨w5.heap.size,7,none⟩ (.int .u32 (n.k.toNat:Int)))=X:=⟨_,rfl⟩;rw[oW]at hset ⊢;have hg:w9.grownBy WF (some w5.heap.size):=(by rw[←oW];exact dB w5.heap.size [.int .u32 (n.a.toNat:Int),.int .u32 (n.b.toNat:Int),.int .u32 (n.c.toNat:Int),.int .u32 (n.d.toNat:Int),.int .u32 (n.e.toNat:Int),.int .u32 (n.f.toNat:Int),.int .u32 (n.g.toNat:Int),.int .u32 (n.k.toNat:Int)] 0 w9);have hl9:=c9.size;have hlz:=HL5.out;have hSF:WF.cell? ⟨w2.heap.size,k,none⟩=some (.int .u32 (X.toNat:Int))/\WF.cell? ⟨w4.heap.size,k,none⟩=some (.int .u32 (R.toNat:Int)):=⟨(hg.cell_far ⟨w2.heap.size,k,none⟩ (by show w2.heap.size<_;omega) (fun e=>absurd (show w2.heap.size=w5.heap.size from Option.some.inj e) (by omega))).trans hS9.1,(hg.cell_far ⟨w4.heap.size,k,none⟩ (by show w4.heap.size<_;omega) (fun e=>absurd (show w4.heap.size=w5.heap.size from Option.some.inj e) (by omega))).trans hS9.2⟩;have hz2:=Q2.out.lt;have hz4:=Q4.out.lt;have bks:=bk.size;have E7:=yH (show Bx WF w5.heap.size (LX (rounds dZ h b (k+1))) 208 by rw[HN.out];exact hset);have E5:=yH (show ∀j,j<64->WF.cell? ⟨w2.heap.size,j,none⟩=some (.int .u32 ((ws b j).toNat:Int))from fun j hj=>(hg.cell_far ⟨w2.heap.size,j,none⟩ (by show w2.heap.size<_;omega) (fun e=>absurd (show w2.heap.size=w5.heap.size from Option.some.inj e) (by omega))).trans ((c9.cell (p:=⟨w2.heap.size,j,none⟩) hlS.1).trans (Q5.out j hj)))
   have E6:=yH (show ∀j,j<64->WF.cell? ⟨w4.heap.size,j,none⟩=some (.int .u32 ((dZ j).toNat:Int))from fun j hj=>(hg.cell_far ⟨w4.heap.size,j,none⟩ (by show w4.heap.size<_;omega) (fun e=>absurd (show w4.heap.size=w5.heap.size from Option.some.inj e) (by omega))).trans ((c9.cell (p:=⟨w4.heap.size,j,none⟩) hlS.2).trans (Q6.out j hj)));have E2:=yH ((Q2.out.below c9).kept (hg.block _ (by omega) (fun e=>by have:=Option.some.inj e;omega)));have E4:=yH ((Q4.out.below c9).kept (hg.block _ (by omega) (fun e=>by have:=Option.some.inj e;omega)));have EB:=(bk.trans (c9.mono bk.size)).grown hg (by omega) (fun k e=>by have:=Option.some.inj e;omega);clear oW hg hset n0 n1 n2 n3 n4 n5 n6 n7 o0 o1 o2 o3 o4 o5 o6 o7;refine hK.out _ _ hSF (fun hHeld=>?_);clear hK K;refine wpAnyH_done (by kernel_rfl) ?_ _;clear hHeld hS hS9 hSF
   go_wp2_with fail
   go_roundw
   case rel=>exact⟨k+1,by omega,by go_num,E7,E5,E6,E2,E4,EB⟩
   case measure=>simp[intOf];omega
  ·obtain rfl:k=64:=(by omega);have hlz:=HL5.out;have Z7:=yH (show Bx wr w5.heap.size (hc (sums dZ h b 0)).toArray 208 from by
    have e:hc (sums dZ h b 0)=hc (vf (rounds dZ h b 64)):=qK fun j _=>by unfold sums;rw[if_neg (by omega)]
    rw[e,←TD];exact Q7.out)
   clear Q5 Q6 Q7
   go_wp2_with fail;generalize wr=wz at *
   go_loopw [9] (fun i wr=>∃k:Nat,k<=8/\i = .int .i64 k/\Hid (Bx wr w5.heap.size (hc (sums dZ h b k)).toArray 208)/\Hid (Bx wr w.heap.size HL.toArray 208)/\Hid (Bx wr (w.heap.size+1+1) lq 208)/\Below w.heap.size w wr) (fun i _=>8-(intOf i).toNat)
   case atStart=>exact⟨0,Nat.zero_le _,rfl,Z7,Q2,Q4,bk⟩
   case round =>
    obtain⟨k,hk,rfl,R7,R2,R4,bq⟩:=hrel;clear Z7 Q2 Q4 bk;have e0:(0:Int)<=(k:Int):=Int.natCast_nonneg _;by_cases hlt:k<8
    ·have e1:(k:Int)<8:=(by omega);obtain⟨x,hx⟩:∃x,vf (rounds dZ h b 64) k=x:=⟨_,rfl⟩;obtain⟨y,hy⟩:∃y,h k=y:=⟨_,rfl⟩;have HE:=yH (show hb dZ h b k=x+y by rw[ZN _ _ _ k hlt,hx,hy]);have c0:wr.cell? ⟨w5.heap.size,k,none⟩=some (.int .u32 (x.toNat:Int)):=by
      rw[R7.out.cell];have h1:sums dZ h b k k=x:=(by unfold sums;rw[if_neg (by omega),hx]);have h2:=pM (sums dZ h b k) k hlt;rw[h1]at h2
      simpa using h2
     have c1:wr.cell? ⟨w.heap.size,k,none⟩=some (.int .u32 (y.toNat:Int)):=by
      rw[R2.out.cell,←Yf.out,←hy]
      simpa using pM h k hlt
     have c2:=R7.out.frozen k;have HV:=yH (yG x y);clear hx hy
     go_wp2_with fail
     go_region
     go_wp2_with fail;rw[HV.out]
     go_roundw
     case rel =>
      have hset:=R7.out.set k (.int .u32 ((x+y).toNat:Int));rw[Vz _ k hlt,show hc (fun i=>if i=k then x+y else sums dZ h b k i)=hc (sums dZ h b (k+1))from qK fun j _=>by
       unfold sums;by_cases h1:j=k
       ·subst h1;rw[if_pos rfl,if_pos (by omega),HE.out]
       ·rw[if_neg h1];by_cases h2:j<k
        ·rw[if_pos h2,if_pos (by omega)]
        ·rw[if_neg h2,if_neg (by omega)]]at hset
      have hbz:=(bq.setCell (p:=⟨w5.heap.size,k,none⟩) (show w.heap.size<=w5.heap.size by omega) (.int .u32 ((x+y).toNat:Int))).drew;exact⟨k+1,by omega,by go_num,yH (hset.dn ⟨1,rfl⟩),yH ((R2.out.aH (p:=⟨w5.heap.size,k,none⟩) _ (by show w.heap.size≠w5.heap.size;omega)).dn ⟨1,rfl⟩),yH ((R4.out.aH (p:=⟨w5.heap.size,k,none⟩) _ (by show w.heap.size+1+1≠w5.heap.size;omega)).dn ⟨1,rfl⟩),hbz⟩
     case measure=>simp[intOf];omega
    ·obtain rfl:k=8:=(by omega);have HF:=yH (show hc (sums dZ h b 8)=hc (hb dZ h b)from qK fun j hj=>by unfold sums;rw[if_pos hj]);rw[HF.out]at R7;obtain⟨D,hD⟩:∃D,hc (hb dZ h b)=D:=⟨_,rfl⟩;have hDl:D.length=8:=(by rw[←hD,dH]);have yI:∀v∈D,v.oneCell'=true:=(by rw[←hD];exact Aa _);rw[hD]at R7;have BV:=yH hD;have Ye:=R7.out.range;have lC:=yH hDl;have G5:=yH yI;clear hD hDl yI HF
     go_wp2_with (first|(refine wpList_load_mid rfl 208 _ (by rfl) w5.heap.size 0 (by rfl) D _ Ye Tryz.underlying208 rfl ?L8 ?_)|(refine wpList_store_mid (by rfl) 208 _ _ (by rfl) (w.heap.size+1+1) 0 D.toArray (by rfl) (by rfl) ?h4 ?h5 ?h6 ?_;rotate_right))
     case L8=>first|exact jP|(rw[lC.out];first|exact jP|kernel_rfl)
     case h4=>first|exact R4.out.there _ (by rw[lC.out];rfl)|exact R4.out.there _ (by rw[show D.toArray.size=8 by rw[List.size_toArray,lC.out]];rfl)
     case h5=>first|exact jP|(rw[lC.out];first|exact jP|kernel_rfl)|(rw[List.size_toArray,lC.out];first|exact jP|kernel_rfl)
     case h6=>first|exact G5.out|exact all_oneCell_toArray G5.out
     have hfin:(wr.setCells (w.heap.size+1+1) 0 D).rangeAt (w.heap.size+1+1) 0 D:=World.rangeAt_setCells_same _ _ _ _ (R4.out.there _ (by rw[lC.out];rfl));have hlv:=run_loadVar_mid (P:=Tryz.prog) _ (w.heap.size+1+1) 0 208 D _ hfin Tryz.underlying208 rfl (by rw[lC.out];kernel_rfl);refine bodyPost_ret (v:=.agg D.toArray) (ai Tryz.results181 rfl hlv) rfl ⟨by rw[BV.out],?_⟩;exact bq.grown (dB _ _ _ _) bq.size (fun k e=>by have:=Option.some.inj e;omega)
end kD

namespace kD
open Go.RowKit Mem ku
def IX(z:Nat):List UInt8:=128 :: List.replicate z 0
def CE(n m:Nat):List UInt8:=IX (eF n)++(List.range m).map fun r=>oP n (7-r)
theorem IY(z:Nat):IX (z+1)=IX z ++ [0]:=by unfold IX;rw[List.replicate_succ',List.cons_append]
theorem IZ(n m:Nat):CE n (m+1)=CE n m ++ [oP n (7-m)]:=by unfold CE;rw[List.range_succ,List.map_append,List.append_assoc];rfl
theorem L9(n:Nat):CE n 8=pad n:=by
 show(128 :: List.replicate (eF n) 0)++(List.range 8).map (fun r=>oP n (7-r))=(List.range (9+eF n)).map fun j=>if j=0 then 128 else if 9+eF n<=j+8 then oP n (8+eF n-j)else 0
 refine List.ext_getElem (by simp;omega) (fun j h1 h2=>?_);have hj:j<9+eF n:=(by simpa using h2);rw[List.getElem_map,List.getElem_range];by_cases h0:j=0
 ·subst h0;simp
 ·rw[if_neg h0];by_cases hz:j<eF n+1
  ·rw[if_neg (by omega),List.getElem_append_left (by simp;omega),List.getElem_cons,dif_neg h0,List.getElem_replicate]
  ·rw[if_pos (by omega),List.getElem_append_right (by simp;omega)];simp only[List.getElem_map,List.getElem_range,List.length_cons,List.length_replicate];congr 1;omega
theorem ofInt64(x:BitVec 64):BitVec.ofInt 64 (x.toNat:Int)=x:=by
 apply BitVec.eq_of_toNat_eq;have:=x.isLt;simp
theorem VB(a:Nat)(h:a<18446744073709551616):bits .and .u64 (a:Int) 255=((a % 256:Nat):Int):=by
 have e1:(a:Int)=((BitVec.ofNat 64 a).toNat:Int):=(by rw[BitVec.toNat_ofNat,Nat.mod_eq_of_lt h]);have e2:(255:Int)=((255#64).toNat:Int):=rfl;have e3:(BitVec.ofNat 64 a &&& 255#64).toNat=a % 256:=(by rw[BitVec.toNat_and,BitVec.toNat_ofNat,Nat.mod_eq_of_lt h];exact Nat.and_two_pow_sub_one_eq_mod a 8);have e4:IntKind.u64.wrap (((BitVec.ofNat 64 a &&& 255#64).toNat:Nat):Int)=((a % 256:Nat):Int):=(by rw[e3,IntKind.wrap_u64];omega);rw[e1,e2];unfold bits;simp only[IntKind.bits,ofInt64];exact e4
theorem Mc(n r:Nat)(hn:n<=1099511627776):bits .and .u64 ((n:Int)*8 / 2 ^ (8*r)) 255 % 256=((oP n r).toNat:Int):=by
 have e1:((n:Int)*8 / 2 ^ (8*r))=((n*8 / 2 ^ (8*r):Nat):Int):=(by simp);have h:n*8 / 2 ^ (8*r)<=n*8:=Nat.div_le_self _ _;rw[CG,e1,VB _ (by omega)];omega
set_option maxRecDepth 20000 in
theorem VC(n:Nat)(w:World)(hn:n<=1099511627776) :
 Calls Tryz.prog 179 #[.int .i64 (n:Int)] w fun e w'=>∃X:ByteArray,e = .returned (.string X)/\X.data.toList=pad n/\Below w.heap.size w w':=by
 have n0:¬(n:Int)<0:=(by omega);have n1:(0:Int)<=(n:Int):=Int.natCast_nonneg _
 go_enter Tryz.func179,Tryz.ntmps179
 go_wp2_with fail
 go_loopw [3] (fun v wr=>∃(z:Nat) (p:ByteArray),z<=eF n/\v = .string p/\Hid (p.data.toList=IX z)/\p.size=z+1/\Hid (w=wr)) (fun v _=>64-(match v with | .string p=>p.size|_=>0))
 case atStart=>exact⟨0,_,Nat.zero_le _,rfl,yH rfl,rfl,yH rfl⟩
 case round =>
  obtain⟨z,p,hz,rfl,hp,hps,hw⟩:=hrel;obtain rfl:=hw.out;have zet:eF n<64:=Nat.mod_lt _ (by decide);have z0:(0:Int)<=(n:Int) % 64:=(by omega);have ZP:(p.size:Int)=(z:Int)+1:=(by omega);by_cases he:z=eF n
  ·have t1:((((n:Int).tmod 64+(p.size:Int)).tmod 64) != 56)=false:=(by rw[Int.tmod_eq_emod_of_nonneg n1,Int.tmod_eq_emod_of_nonneg (by omega),bne_eq_false_iff_eq];unfold eF at he;omega);have t2:((((n:Int) % 64+(p.size:Int)) % 64) != 56)=false:=(by rw[bne_eq_false_iff_eq];unfold eF at he;omega);subst he;have HP0:=yH (show p.data.toList=CE n (8-8) by rw[hp.out];simp[CE]);have hp9:p.size<=64:=(by omega);have h8w:IntKind.u64.wrap ((n:Int)*8)=(n:Int)*8:=(by rw[IntKind.wrap_u64];omega);clear ZP
   go_wp2_with fail;clear t1 t2 h8w hps
   go_loopw [3,5] (fun v i wr=>∃(r:Nat) (q:ByteArray),r<=8/\i = .int .i64 ((r:Int)-1)/\v = .string q/\Hid (q.data.toList=CE n (8-r))/\q.size<=64+(8-r)/\Below w.heap.size w wr) (fun _ i _=>(intOf i+1).toNat)
   case atStart=>exact⟨8,p,Nat.le_refl _,rfl,rfl,HP0,by omega,Below.refl _ _⟩
   case round =>
    obtain⟨r,q,hr,rfl,rfl,hq,hqs,br⟩:=hrel;cases r with
    | zero =>
     go_wp2_with fail
     go_ret;exact⟨q,rfl,by rw[hq.out];exact L9 n,br⟩
    | succ r =>
     have r0:(0:Int)<=(r:Int):=Int.natCast_nonneg _;have r1:((r+1:Nat):Int)-1=(r:Int):=(by omega);rw[r1];clear r1;have r8:(r:Int)<=7:=(by omega);have own:(wr.alloc (.cells #[.int .u8 ((oP n r).toNat:Int)] 5)).ownsRow wr.heap.size 5 1 (.slice (some ⟨wr.heap.size,0,none⟩) 1 1) 1 (Lib.byteCells [oP n r]):=World.ownsRow_lit wr #[.int .u8 ((oP n r).toNat:Int)] 1 (Nat.le_refl _) (by unfold maxLen;omega) rfl;have hcv:=Lb.kY (P:=Tryz.prog) Tryz.underlying108 Tryz.underlying5 Tryz.underlying9 rfl own;rw[←Mc n r hn]at hcv;have sG:=yH (show(q++(⟨#[oP n r]⟩:ByteArray)).data.toList=CE n (8-r) by
      rw[show 8-r=7-r+1 by omega,IZ,show 7-(7-r)=r by omega];have:=hq.out;rw[show 8-(r+1)=7-r by omega]at this;rw[←this];simp)
     have ba:=br.alloc br.size (.cells #[.int .u8 (bits .and .u64 ((n:Int)*8 / 2 ^ (8*r)) 255 % 256)] 5);clear own
     go_wp2_with fail
     go_roundw
     case rel=>exact⟨r,_,by omega,rfl,rfl,sG,by rw[ByteArray.size_append,show(⟨#[oP n r]⟩:ByteArray).size=1 from rfl];omega,ba⟩
     case measure=>simp[intOf]
  ·have t1:((((n:Int).tmod 64+(p.size:Int)).tmod 64) != 56)=true:=(by rw[Int.tmod_eq_emod_of_nonneg n1,Int.tmod_eq_emod_of_nonneg (by omega),bne_iff_ne];unfold eF at he hz;omega);have t2:((((n:Int) % 64+(p.size:Int)) % 64) != 56)=true:=(by rw[bne_iff_ne];unfold eF at he hz;omega);have hb:p.size<=1000:=(by omega);have sG:=yH (show(p++(⟨#[0]⟩:ByteArray)).data.toList=IX (z+1) by rw[IY,←hp.out];simp);clear ZP
   go_wp2_with fail
   go_roundw
   case rel=>exact⟨z+1,_,by omega,rfl,sG,by rw[ByteArray.size_append,hps];rfl,yH (by trivial)⟩
   case measure =>
    show 64-(p++(⟨#[0]⟩:ByteArray)).size<64-p.size;rw[ByteArray.size_append,show(⟨#[0]⟩:ByteArray).size=1 from rfl];omega
end kD

namespace kD
open Go.RowKit Mem ku
def VD:Array Value:=#[.int .u8 0,.int .u8 0,.int .u8 0,.int .u8 0,.int .u8 0,.int .u8 0,.int .u8 0,.int .u8 0,.int .u8 0,.int .u8 0,.int .u8 0,.int .u8 0,.int .u8 0,.int .u8 0,.int .u8 0,.int .u8 0,.int .u8 0,.int .u8 0,.int .u8 0,.int .u8 0,.int .u8 0,.int .u8 0,.int .u8 0,.int .u8 0,.int .u8 0,.int .u8 0,.int .u8 0,.int .u8 0,.int .u8 0,.int .u8 0,.int .u8 0,.int .u8 0,.int .u8 0,.int .u8 0,.int .u8 0,.int .u8 0,.int .u8 0,.int .u8 0,.int .u8 0,.int .u8 0,.int .u8 0,.int .u8 0,.int .u8 0,.int .u8 0,.int .u8 0,.int .u8 0,.int .u8 0,.int .u8 0,.int .u8 0,.int .u8 0,.int .u8 0,.int .u8 0,.int .u8 0,.int .u8 0,.int .u8 0,.int .u8 0,.int .u8 0,.int .u8 0,.int .u8 0,.int .u8 0,.int .u8 0,.int .u8 0,.int .u8 0,.int .u8 0]
def Ad:Array Value:=#[.int .u8 0,.int .u8 0,.int .u8 0,.int .u8 0,.int .u8 0,.int .u8 0,.int .u8 0,.int .u8 0,.int .u8 0,.int .u8 0,.int .u8 0,.int .u8 0,.int .u8 0,.int .u8 0,.int .u8 0,.int .u8 0,.int .u8 0,.int .u8 0,.int .u8 0,.int .u8 0,.int .u8 0,.int .u8 0,.int .u8 0,.int .u8 0,.int .u8 0,.int .u8 0,.int .u8 0,.int .u8 0,.int .u8 0,.int .u8 0,.int .u8 0,.int .u8 0]
/-- A block behind i of its bytes. -/
def fB(m:List UInt8)(k i j:Nat):BitVec 8:=if j<i then bB m (64*k) j else 0
theorem Qv(m:List UInt8)(k:Nat):VD=(bc (fB m k 0)).toArray:=by
 have h:bc (fB m k 0)=List.replicate 64 (.int .u8 0):=(by refine List.ext_getElem (by simp[bc]) (fun j h1 h2=>?_);simp only[bc,List.getElem_map,List.getElem_range,List.getElem_replicate];rfl);exact(show VD=(List.replicate 64 (.int .u8 0)).toArray by kernel_rfl).trans (by rw[h])
theorem CJ{f g:Nat->BitVec 8}(h:∀j,j<64->f j=g j):bc f=bc g:=by
 unfold bc;exact List.map_congr_left fun j hj=>by rw[h j (List.mem_range.1 hj)]
theorem VE(h:Nat->BitVec 8)(j:Nat)(x:BitVec 8):(bc h).toArray.setIfInBounds j (.int .u8 (x.toNat:Int))=(bc fun i=>if i=j then x else h i).toArray:=by
 rw[List.setIfInBounds_toArray];congr 1;refine List.ext_getElem (by simp[bc]) (fun i h1 h2=>?_);rw[List.getElem_set];simp only[bc,List.getElem_map,List.getElem_range];by_cases e:j=i
 ·subst e;rw[if_pos rfl,if_pos rfl]
 ·rw[if_neg e,if_neg (fun h=>e h.symm)]
/-- The sum behind k of its bytes. -/
def dK(D:List UInt8)(k:Nat):List UInt8:=D.take k++List.replicate (32-k) 0
theorem VF(D:List UInt8)(k:Nat)(h:D.length=32)(hk:k<32):(dK D k).set k (D[k]'(by omega))=dK D (k+1):=by
 unfold dK;refine List.ext_getElem (by simp;omega) (fun j h1 h2=>?_);rw[List.getElem_set];have hj:j<32:=(by simp at h1;omega);by_cases e:k=j
 ·subst e;rw[if_pos rfl,List.getElem_append_left (by simp;omega)];simp
 ·rw[if_neg e];by_cases hl:j<k
  ·rw[List.getElem_append_left (by simp;omega),List.getElem_append_left (by simp;omega)];simp
  ·rw[List.getElem_append_right (by simp;omega),List.getElem_append_right (by simp;omega)];simp
theorem Qw(D:List UInt8):Ad=(Lib.byteCells (dK D 0)).toArray:=by
 have h:dK D 0=List.replicate 32 0:=rfl;exact(show Ad=(Lib.byteCells (List.replicate 32 0)).toArray by kernel_rfl).trans (by rw[h])
theorem Qx(D:List UInt8)(h:D.length=32):dK D 32=D:=by
 unfold dK;rw[List.take_of_length_le (by omega)];simp
theorem I4(D:List UInt8)(k:Nat)(h:D.length=32)(hk:k<=32):(dK D k).length=32:=by unfold dK;simp;omega
theorem Qy{w:World}{P:Nat}{zs:Array Value}{t:TypeId}{L:List Value}(X:Bx w P zs t)(hl:zs.size=L.length):Bx (w.setCells P 0 L) P L.toArray t:=by
 obtain⟨ys,hb,hs⟩:=Own.bH L 0 w X;have hr:(w.setCells P 0 L).rangeAt P 0 L:=World.rangeAt_setCells_same _ _ _ _ (X.there _ hl);have e:ys=L.toArray:=by
  apply Array.ext_getElem?;intro i;by_cases hi:i<L.length
  ·have h1:=hr i L[i] (List.getElem?_eq_getElem hi);rw[Nat.zero_add,hb.cell]at h1;rw[h1];simp[hi]
  ·rw[Array.getElem?_eq_none (by omega),Array.getElem?_eq_none (by simp;omega)]
 rw[←e];exact hb
theorem sH:∃a,Tryz.prog.info? 28=some a/\a.size=32:=Ac (by kernel_rfl)
theorem byte_of(x s:Nat):((x:Int) / 2 ^ s) % 256=((UInt8.ofNat (x / 2 ^ s % 256)).toNat:Int):=by
 rw[UInt8.toNat_ofNat_of_lt' (by show _<256;omega)];simp
set_option maxRecDepth 20000 in
theorem ZQ(t:ByteArray)(w:World)(ht:t.size<=1099511627776):Calls Tryz.prog 141 #[.string t] w fun e w'=>e = .returned (.agg (Lib.byteCells (eX dZ iZ t.data.toList)).toArray)/\Below w.heap.size w w':=by
 have hpl:=zY t.size;have HPN:=yH (show(pad t.size).length=9+eF t.size from iY _ _);obtain⟨K,hK⟩:∃K,(t.size+(9+eF t.size)) / 64=K:=⟨_,rfl⟩;rw[hK]at hpl;have HOF:=yH (show eX dZ iZ t.data.toList=(List.range 32).map fun j=>UInt8.ofNat (((hB dZ iZ (t.data.toList++pad t.size) K (j / 4)).toNat / 2 ^ (24-8*(j % 4))) % 256) by
  rw[ZC,show t.data.toList.length=t.size by simp,hK])
 have HKS:=yH hpl;clear hpl hK
 go_enter Tryz.func141,Tryz.ntmps141
 go_wp2_with fail;refine ae fun w1 hw1=>?_
 have hw2:w.alloc (.cells Ad 28)=w1:=hw1;clear hw1;obtain⟨B1,X1⟩:=af hw2;clear hw2;refine(VC t.size w1 ht).mono ?_;rintro e w2 ⟨X,rfl,hX,b2⟩;have hXs:X.size=9+eF t.size:=(by rw[←HPN.out,←hX];simp);have B2:=B1.trans (b2.mono B1.size);have X2:=X1.below b2;obtain⟨m,hm⟩:∃m,t++X=m:=⟨_,rfl⟩;have HM:=yH (show m.data.toList=t.data.toList++pad t.size by rw[←hm,←hX];simp);have hms:m.size=64*K:=(by rw[←hm,ByteArray.size_append,hXs,HKS.out]);have HMS:=yH hms;have hpz:eF t.size<64:=Nat.mod_lt _ (by decide);have hKb:K<=17179869190:=(by have:=HKS.out;omega);have hsum:t.size+X.size<=1099511627900:=(by omega);clear B1 X1 b2 hXs hX
 go_wp2_with fail;clear hm;refine(Vt w2).mono ?_;rintro e w3 ⟨rfl,b3⟩;have B3:=B2.trans (b3.mono B2.size);have X3:=yH (X2.below b3);obtain⟨HL,hHL⟩:∃HL,hc iZ=HL:=⟨_,rfl⟩;have IW:HL.length=8:=(by rw[←hHL,dH]);have L6:∀v∈HL,v.oneCell'=true:=(by rw[←hHL];exact Aa _);rw[hHL];have Yf:=yH hHL;clear hHL X2 B2 b3 hsum
 go_wp2_with (refine wpList_store_mid (by rfl) 208 _ _ (by rfl) w3.heap.size 0 HL.toArray (by rfl) (by rfl) ?m4 ?m5 ?m6 ?_;rotate_right;refine Mem.named ?_;intro w4 hw4;have hw5:(w3.alloc (.cells lq 208)).setCells w3.heap.size 0 HL=w4:=hw4;clear hw4)
 case m4=>first|exact(Bx.new w3 lq 208).there 8 (by kernel_rfl)|exact(Bx.new w3 lq 208).there _ (by rw[show HL.toArray.size=8 by rw[List.size_toArray,IW]];kernel_rfl)
 case m5=>first|exact jP|(rw[List.size_toArray,IW];first|exact jP|kernel_rfl)
 case m6=>first|exact L6|exact all_oneCell_toArray L6
 have X4:=St.lu hw5 (by rw[IW];kernel_rfl);have b4:=Any.aX hw5;have B4:=B3.trans (b4.mono B3.size);have Y3:=yH (X3.out.below b4);have H4:=yH (show Bx w4 w3.heap.size (hc (hB dZ iZ m.data.toList 0)).toArray 208 by rw[show hB dZ iZ m.data.toList 0=iZ from rfl,Yf.out];exact X4);have hl3:w.heap.size<w3.heap.size:=X3.out.lt;clear hw5 X4 b4 X3 B3
 go_loopw [5,6,7] (fun i _ _ wr=>∃k:Nat,k<=K/\i = .int .i64 (64*(k:Int))/\Hid (Bx wr w3.heap.size (hc (hB dZ iZ m.data.toList k)).toArray 208)/\Hid (Bx wr w.heap.size Ad 28)/\Below w.heap.size w wr) (fun i _ _ _=>64*K-(intOf i).toNat)
 case atStart=>exact⟨0,Nat.zero_le _,rfl,H4,Y3,B4⟩
 case round =>
  obtain⟨k,hk,rfl,R4,R3,bk⟩:=hrel;clear H4 Y3 B4;have e0:(0:Int)<=(k:Int):=Int.natCast_nonneg _;by_cases hlt:k<K
  ·have e1:64*(k:Int)<(m.size:Int):=(by omega)
   go_wp2_with fail;refine Mem.named ?_;intro wA hwA;have hwB:wr.alloc (.cells VD 170)=wA:=hwA;clear hwA;obtain⟨bA,XA⟩:=af hwB;clear hwB;have HA:=yH (show Bx wA wr.heap.size (bc (fB m.data.toList k 0)).toArray 170 by rw[←Qv];exact XA);have S4:=yH (R4.out.below bA);have S3:=yH (R3.out.below bA);have bk2:=bk.trans (bA.mono bk.size);have hn4:w3.heap.size<wr.heap.size:=R4.out.lt;have hbs:=bk.size;clear XA R4 R3 bk bA;generalize wr=wz at *
   go_loopw [7] (fun i wr=>∃j:Nat,j<=64/\i = .int .i64 j/\Hid (Bx wr wz.heap.size (bc (fB m.data.toList k j)).toArray 170)/\Hid (Bx wr w3.heap.size (hc (hB dZ iZ m.data.toList k)).toArray 208)/\Hid (Bx wr w.heap.size Ad 28)/\Below w.heap.size w wr) (fun i _=>64-(intOf i).toNat)
   case atStart=>exact⟨0,Nat.zero_le _,rfl,HA,S4,S3,bk2⟩
   case round =>
    obtain⟨j,hj,rfl,TA,T4,T3,bj⟩:=hrel;clear HA S4 S3 bk2;have f0:(0:Int)<=(j:Int):=Int.natCast_nonneg _;by_cases hlj:j<64
    ·have f1:(j:Int)<64:=(by omega);have hin:64*k+j<m.size:=(by omega);have c0:wr.cell? ⟨wz.heap.size,j,none⟩=some (.int .u8 ((fB m.data.toList k j j).toNat:Int)):=by
      rw[TA.out.cell]
      simpa using zZ (fB m.data.toList k j) j hlj
     have c1:=TA.out.frozen j;have HBB:=yH (show bB m.data.toList (64*k) j=m[64*k+j].toBitVec by
      unfold bB;have h:m.data.toList[64*k+j]? = some m[64*k+j]:=by
       rw[List.getElem?_eq_getElem (by simpa using hin)];rfl
      rw[h];rfl)
     go_wp2_with fail
     go_roundw
     case rel =>
      have hset:=TA.out.set j (.int .u8 (m[64*k+j].toNat:Int));rw[show((m[64*k+j].toNat:Nat):Int)=((m[64*k+j].toBitVec.toNat:Nat):Int)from rfl,VE,show bc (fun i=>if i=j then m[64*k+j].toBitVec else fB m.data.toList k j i)=bc (fB m.data.toList k (j+1))from CJ fun i hi=>by
       unfold fB;by_cases h1:i=j
       ·subst h1;rw[if_pos rfl,if_pos (by omega),HBB.out]
       ·rw[if_neg h1];by_cases h2:i<j
        ·rw[if_pos h2,if_pos (by omega)]
        ·rw[if_neg h2,if_neg (by omega)]]at hset
      exact⟨j+1,by omega,by go_num,yH hset,yH (T4.out.aH (p:=⟨wz.heap.size,j,none⟩) _ (by show w3.heap.size≠wz.heap.size;omega)),yH (T3.out.aH (p:=⟨wz.heap.size,j,none⟩) _ (by show w.heap.size≠wz.heap.size;omega)),bj.setCell (p:=⟨wz.heap.size,j,none⟩) (by show w.heap.size<=wz.heap.size;omega) _⟩
     case measure=>simp[intOf];omega
    ·obtain rfl:j=64:=(by omega);have HBF:=yH (show bc (fB m.data.toList k 64)=bc (bB m.data.toList (64*k))from CJ fun i hi=>by unfold fB;rw[if_pos hi]);rw[HBF.out]at TA;have Qu:=yH (fun W=>E8 (hB dZ iZ m.data.toList k) (bB m.data.toList (64*k)) W);have sG:=yH (show hB dZ iZ m.data.toList (k+1)=hb dZ (hB dZ iZ m.data.toList k) (bB m.data.toList (64*k))from rfl);rw[←sG.out]at Qu;obtain⟨BL,hBL⟩:∃BL,bc (bB m.data.toList (64*k))=BL:=⟨_,rfl⟩;have Qs:BL.length=64:=(by rw[←hBL,iK]);obtain⟨CL,Yg⟩:∃CL,hc (hB dZ iZ m.data.toList k)=CL:=⟨_,rfl⟩;have Qz:CL.length=8:=(by rw[←Yg,dH]);obtain⟨NL,ZT⟩:∃NL,hc (hB dZ iZ m.data.toList (k+1))=NL:=⟨_,rfl⟩;have Md:NL.length=8:=(by rw[←ZT,dH]);have ZU:∀v∈NL,v.oneCell'=true:=(by rw[←ZT];exact Aa _);rw[hBL]at TA Qu;rw[Yg]at T4 Qu;rw[ZT]at Qu;have ZV:=yH ZT;have rA:=TA.out.range;have r4:=T4.out.range;clear hBL Yg ZT sG HBF
     go_wp2_with (first
      | (refine wpList_load_mid rfl 208 _ (by rfl) w3.heap.size 0 (by rfl) CL _ r4 Tryz.underlying208 rfl ?L8 ?_)
      | (refine wpList_load_mid rfl 170 _ (by rfl) wz.heap.size 0 (by rfl) BL _ rA Tryz.underlying170 rfl ?hlen5 ?_))
     case L8=>first|exact jP|(rw[Qz];first|exact jP|kernel_rfl)
     case hlen5=>first|exact uX|(rw[Qs];first|exact uX|kernel_rfl)
     refine(Qu.out wr).mono ?_;rintro e w9 ⟨rfl,b9⟩;have V4:=yH (T4.out.below b9);have V3:=yH (T3.out.below b9);have B9:=bj.trans (b9.mono bj.size);clear Qu rA r4 TA T4 T3 bj b9
     go_wp2_with (refine wpList_store_mid (by rfl) 208 _ _ (by rfl) w3.heap.size 0 NL.toArray (by rfl) (by rfl) ?q4 ?q5 ?q6 ?_;rotate_right)
     case q4=>first|exact V4.out.there _ (by rw[Md,List.size_toArray,Qz])|exact V4.out.there _ (by simp[Md,Qz])
     case q5=>first|exact jP|(rw[Md];first|exact jP|kernel_rfl)|(rw[List.size_toArray,Md];first|exact jP|kernel_rfl)
     case q6=>first|exact ZU|exact all_oneCell_toArray ZU
     go_roundw
     case rel =>
      refine⟨k+1,by omega,by rw[show(64*((k+1:Nat):Int))=64*(k:Int)+64 by omega],yH ?_,yH (V3.out.kept ((dB w3.heap.size NL 0 w9).block _ V3.out.lt (fun e=>by have:=Option.some.inj e;omega))),B9.grown (dB w3.heap.size NL 0 w9) B9.size (fun q e=>by have:=Option.some.inj e;omega)⟩;rw[ZV.out];exact Qy V4.out (by rw[List.size_toArray,Qz,Md])
     case measure=>simp[intOf];omega
  ·have hkk:k=K:=(by omega);subst hkk;have e1:¬64*(k:Int)<(m.size:Int):=(by omega);have hn4:w3.heap.size<wr.heap.size:=R4.out.lt;obtain⟨D,hD⟩:∃D,eX dZ iZ t.data.toList=D:=⟨_,rfl⟩;have hDl:D.length=32:=(by rw[←hD];exact ku.eu _ _);have BV:=yH hD;have lC:=yH hDl;have HDG:=yH (show ∀j (hj:j<D.length),D[j]=UInt8.ofNat ((hB dZ iZ m.data.toList k (j / 4)).toNat / 2 ^ (24-8*(j % 4)) % 256)from fun j hj=>by
    have h1:=HOF.out;rw[hD,←HM.out]at h1;subst h1;simp)
   have HBs:=bk.size;clear hD hDl
   go_wp2_with fail;refine Mem.named ?_;intro wA hwA;have hwB:wr.alloc (.cells Ad 28)=wA:=hwA;clear hwA;obtain⟨bA,XA⟩:=af hwB;clear hwB;have HA:=yH (show Bx wA wr.heap.size (Lib.byteCells (dK D 0)).toArray 28 by rw[←Qw];exact XA);have S4:=yH (R4.out.below bA);have S3:=yH (R3.out.below bA);have bk2:=bk.trans (bA.mono bk.size);clear XA R4 R3 bk bA;generalize wr=wz at *
   go_loopw [9] (fun i wr=>∃j:Nat,j<=32/\i = .int .i64 j/\Hid (Bx wr wz.heap.size (Lib.byteCells (dK D j)).toArray 28)/\Hid (Bx wr w3.heap.size (hc (hB dZ iZ m.data.toList k)).toArray 208)/\Hid (Bx wr w.heap.size Ad 28)/\Below w.heap.size w wr) (fun i _=>32-(intOf i).toNat)
   case atStart=>exact⟨0,Nat.zero_le _,rfl,HA,S4,S3,bk2⟩
   case round =>
    obtain⟨j,hj,rfl,TA,T4,T3,bj⟩:=hrel;clear HA S4 S3 bk2;have f0:(0:Int)<=(j:Int):=Int.natCast_nonneg _;by_cases hlj:j<32
    ·have f1:(j:Int)<32:=(by omega);have hj4:j / 4<8:=(by omega);have g1:(j:Int).tdiv 4=((j / 4:Nat):Int):=(by rw[Int.tdiv_eq_ediv_of_nonneg f0];omega);have g2:(j:Int).tmod 4=((j % 4:Nat):Int):=(by rw[Int.tmod_eq_emod_of_nonneg f0];omega);obtain⟨x,hx⟩:∃x,hB dZ iZ m.data.toList k (j / 4)=x:=⟨_,rfl⟩;have c0:wr.cell? ⟨w3.heap.size,j / 4,none⟩=some (.int .u32 (x.toNat:Int)):=by
      rw[T4.out.cell,←hx]
      simpa using pM (hB dZ iZ m.data.toList k) (j / 4) hj4
     have c1:=TA.out.frozen j;have J5:=I4 D j lC.out (by omega);obtain⟨v0,c2⟩:∃v0,wr.cell? ⟨wz.heap.size,j,none⟩=some v0:=⟨.int .u8 (((dK D j)[j]'(by omega)).toNat:Int),by rw[TA.out.cell];simp[Lib.byteCells,J5,hlj]⟩;clear J5;have HX:=yH hx;clear hx
     go_wp2_with fail
     go_roundw
     case rel =>
      have hset:=TA.out.set j (.int .u8 ((x.toNat:Int) / 2 ^ (8*(3-j % 4)) % 256));have hb:((x.toNat:Int) / 2 ^ (8*(3-j % 4)) % 256)=((D[j]'(by rw[lC.out];exact hlj)).toNat:Int):=(by rw[HDG.out j (by rw[lC.out];exact hlj),HX.out,show 24-8*(j % 4)=8*(3-j % 4) by omega];exact byte_of _ _);rw[hb];rw[hb,List.setIfInBounds_toArray,Lb.dM,VF D j lC.out hlj]at hset;exact⟨j+1,by omega,by go_num,yH hset,yH (T4.out.aH (p:=⟨wz.heap.size,j,none⟩) _ (by show w3.heap.size≠wz.heap.size;omega)),yH (T3.out.aH (p:=⟨wz.heap.size,j,none⟩) _ (by show w.heap.size≠wz.heap.size;omega)),bj.setCell (p:=⟨wz.heap.size,j,none⟩) (by show w.heap.size<=wz.heap.size;omega) _⟩
     case measure=>simp[intOf];omega
    ·obtain rfl:j=32:=(by omega);rw[Qx D lC.out]at TA;obtain⟨L,hL⟩:∃L,Lib.byteCells D=L:=⟨_,rfl⟩;have Me:L.length=32:=(by rw[←hL,Lib.byteCells_length,lC.out]);have hLo:∀v∈L,v.oneCell'=true:=fun v hv=>by
      rw[←hL]at hv;obtain⟨j,_,rfl⟩:=List.mem_map.1 hv;rfl
     rw[hL]at TA;have HL:=yH hL;have r8:=TA.out.range;clear hL
     go_wp2_with (first|(refine wpList_load_mid rfl 28 _ (by rfl) wz.heap.size 0 (by rfl) L _ r8 Tryz.underlying28 rfl ?ZW ?_)|(refine wpList_store_mid (by rfl) 28 _ _ (by rfl) w.heap.size 0 L.toArray (by rfl) (by rfl) ?h4 ?h5 ?h6 ?_;rotate_right))
     case ZW=>first|exact sH|(rw[Me];first|exact sH|kernel_rfl)
     case h4=>exact T3.out.there _ (by first|(rw[Me];kernel_rfl)|(rw[List.size_toArray,Me];kernel_rfl)|kernel_rfl)
     case h5=>first|exact sH|(rw[Me];first|exact sH|kernel_rfl)|(rw[List.size_toArray,Me];first|exact sH|kernel_rfl)
     case h6=>first|exact hLo|exact all_oneCell_toArray hLo
     have hfin:(wr.setCells w.heap.size 0 L).rangeAt w.heap.size 0 L:=World.rangeAt_setCells_same _ _ _ _ (T3.out.there _ (by rw[Me];kernel_rfl));have hlv:=run_loadVar_mid (P:=Tryz.prog) _ w.heap.size 0 28 L _ hfin Tryz.underlying28 rfl (by rw[Me];kernel_rfl);refine bodyPost_ret (v:=.agg L.toArray) (ai Tryz.results141 rfl hlv) rfl ⟨by rw[BV.out,HL.out],?_⟩;exact bj.grown (dB _ _ _ _) bj.size (fun k e=>by have:=Option.some.inj e;omega)
end kD
end Go.Proofs.YtmmmghpimdfleaaGreatDoor
