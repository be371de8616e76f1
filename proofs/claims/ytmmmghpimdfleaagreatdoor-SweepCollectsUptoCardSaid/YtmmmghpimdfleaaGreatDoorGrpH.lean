/-
  sha.State in memory: took.
  sha.State.Yv: the bytes go in one by one.
-/
import Derived.Test.YtmmmghpimdfleaaGreatDoorTk
import Derived.Test.YtmmmghpimdfleaaGreatDoorGrpG
import Derived.Deep.RegionHeld3
import Derived.Lib.Hide
import Derived.Maps.AppendAt
import Derived.Deep.AppendLies
set_option linter.unusedVariables false
set_option maxHeartbeats 1000000
set_option linter.unusedSimpArgs false
namespace Go.Proofs.YtmmmghpimdfleaaGreatDoor
namespace ku
open Go.RowKit
/-- A State. -/
structure S where
 n:Nat
 h:Nat->BitVec 32
 b:Nat->BitVec 8
 used:Nat
def hc(h:Nat->BitVec 32):List Value:=(List.range 8).map fun j=>.int .u32 ((h j).toNat:Int)
def bc(b:Nat->BitVec 8):List Value:=(List.range 64).map fun j=>.int .u8 ((b j).toNat:Int)
theorem dH(h:Nat->BitVec 32):(hc h).length=8:=by simp[hc]
theorem iK(b:Nat->BitVec 8):(bc b).length=64:=by simp[bc]
theorem pM(h:Nat->BitVec 32)(j:Nat)(hj:j<8):(hc h)[j]? = some (.int .u32 ((h j).toNat:Int)):=by simp[hc,hj]
theorem zZ(b:Nat->BitVec 8)(j:Nat)(hj:j<64):(bc b)[j]? = some (.int .u8 ((b j).toNat:Int)):=by simp[bc,hj]
def S.cf(s:S)(j:Nat):Value:=if j=0 then .int .i64 (s.n:Int)else if j<9 then .int .u32 ((s.h (j-1)).toNat:Int)else if j<73 then .int .u8 ((s.b (j-9)).toNat:Int)else .int .i64 (s.used:Int)
/-- Block p is this State. -/
structure Is(p:Nat)(s:S)(w:World):Prop where
 cell:∀j,j<74->w.cell? ⟨p,j,none⟩=some (s.cf j)
 qZ:∀j,w.frozen? ⟨p,j,none⟩=false
theorem Is.lt{p:Nat}{s:S}{w:World}(h:Is p s w):p<w.heap.size:=World.block_lt_of_cell? w _ (h.cell 0 (by decide))
theorem Is.n{p:Nat}{s:S}{w:World}(h:Is p s w):w.cell? ⟨p,0,none⟩=some (.int .i64 (s.n:Int)):=h.cell 0 (by decide)
theorem Is.used{p:Nat}{s:S}{w:World}(h:Is p s w):w.cell? ⟨p,73,none⟩=some (.int .i64 (s.used:Int)):=h.cell 73 (by decide)
theorem Is.hr{p:Nat}{s:S}{w:World}(h:Is p s w):w.rangeAt p 1 (hc s.h):=fun j v hj=>by
 have hl:j<8:=(by have:=(List.getElem?_eq_some_iff.1 hj).1;simpa[dH]using this);rw[pM _ _ hl]at hj;rw[h.cell (1+j) (by omega),←hj];unfold S.cf;rw[if_neg (by omega),if_pos (by omega),Nat.add_sub_cancel_left]
theorem Is.br{p:Nat}{s:S}{w:World}(h:Is p s w):w.rangeAt p 9 (bc s.b):=fun j v hj=>by
 have hl:j<64:=(by have:=(List.getElem?_eq_some_iff.1 hj).1;simpa[iK]using this);rw[zZ _ _ hl]at hj;rw[h.cell (9+j) (by omega),←hj];unfold S.cf;rw[if_neg (by omega),if_neg (by omega),if_pos (by omega),Nat.add_sub_cancel_left]
theorem Is.th{p:Nat}{s:S}{w:World}(h:Is p s w)(o n:Nat)(hn:o+n<=74):w.there p o n:=fun j hj=>⟨by rw[h.cell (o+j) (by omega)];rfl,h.qZ _⟩
theorem Is.kept{p:Nat}{s:S}{w w':World}(h:Is p s w)(hb:w'.heap[p]? = w.heap[p]?):Is p s w' :=
 ⟨fun j hj=>by unfold World.cell?;rw[hb];exact h.cell j hj,fun j=>by unfold World.frozen?;rw[hb];exact h.qZ j⟩
theorem Is.below{p:Nat}{s:S}{w w':World}(h:Is p s w)(hb:Below w.heap.size w w'):Is p s w':=h.kept (hb.block p h.lt)
/-- A stretch of cells written. -/
theorem Is.sets{p:Nat}{s s':S}{w:World}(h:Is p s w)(o:Nat)(vs:List Value)(hl:o+vs.length<=74)(hin:∀j (hj:j<vs.length),s'.cf (o+j)=vs[j])(hout:∀j,j<74->j<o∨o+vs.length<=j->s'.cf j=s.cf j):Is p s' (w.setCells p o vs):=by
 refine⟨fun j hj=>?_,fun j=>?_⟩
 ·by_cases hc:j<o∨o+vs.length<=j
  ·rw[World.cell?_setCells_out p vs o w ⟨p,j,none⟩ (fun _ _=>hc),hout j hj hc];exact h.cell j hj
  ·have hr:=World.cell?_setCells_in p vs o w (fun j hj=>(h.th o vs.length hl j hj).1) (j-o) (by omega);rw[show o+(j-o)=j by omega]at hr;rw[hr,←hin (j-o) (by omega),show o+(j-o)=j by omega]
 ·rw[World.frozen?_setCells];exact h.qZ j
theorem Is.zdc{p:Nat}{s:S}{w:World}(h:Is p s w)(x:Nat):Is p { s with n:=x } (w.setCell ⟨p,0,none⟩ (.int .i64 (x:Int))):=by
 refine h.sets (s':={ s with n:=x }) 0 [.int .i64 (x:Int)] (by simp) (fun j hj=>?_) (fun j hj ho=>?_)
 ·obtain rfl:j=0:=(by simp at hj;exact hj);rfl
 ·unfold S.cf;simp only[List.length_singleton]at ho
  (repeat' split)<;>(first|rfl|(exfalso;omega))
theorem Is.WQ{p:Nat}{s:S}{w:World}(h:Is p s w)(x:Nat):Is p { s with used:=x } (w.setCell ⟨p,73,none⟩ (.int .i64 (x:Int))):=by
 refine h.sets (s':={ s with used:=x }) 73 [.int .i64 (x:Int)] (by simp) (fun j hj=>?_) (fun j hj ho=>?_)
 ·obtain rfl:j=0:=(by simp at hj;exact hj);rfl
 ·unfold S.cf;simp only[List.length_singleton]at ho
  (repeat' split)<;>(first|rfl|(exfalso;omega))
theorem Is.setH{p:Nat}{s:S}{w:World}(h:Is p s w)(x:Nat->BitVec 32):Is p { s with h:=x } (w.setCells p 1 (hc x)):=by
 refine h.sets (s':={ s with h:=x }) 1 (hc x) (by rw[dH];decide) (fun j hj=>?_) (fun j hj ho=>?_)
 ·rw[dH]at hj;unfold S.cf;rw[if_neg (by omega),if_pos (by omega),Nat.add_sub_cancel_left];have:=pM x j hj;rw[List.getElem?_eq_getElem (by rw[dH];exact hj)]at this;exact(Option.some.inj this).symm
 ·rw[dH]at ho;unfold S.cf
  (repeat' split)<;>(first|rfl|(exfalso;omega))
/-- Old blocks but one are as they were. -/
theorem tu(w:World)(a:Addr)(u:Value):w.grownBy (w.setCell a u) (some a.block) :=
 ⟨rfl,rfl,rfl,by simp,fun k _ hne=>heap_setCell_other w a k u (fun e=>hne (by rw[e]))⟩
theorem dB(p:Nat):∀(vs:List Value) (o:Nat) (w:World),w.grownBy (w.setCells p o vs) (some p)
 | [],_,w=>⟨rfl,rfl,rfl,Nat.le_refl _,fun _ _ _=>rfl⟩
 | v :: r,o,w=>(tu w ⟨p,o,none⟩ v).trans (dB p r (o+1) _)
theorem Dh{w w':World}(h:Below w.heap.size w w')(row:Option Nat):w.grownBy w' row:=⟨h.os,h.tape,h.output,h.size,fun k hk _=>h.block k hk⟩
/-- The words behind a block. -/
def hb(rc:Nat->BitVec 32)(h:Nat->BitVec 32)(b:Nat->BitVec 8):Nat->BitVec 32
 | 0=>h 0+(rounds rc h b 64).a|1=>h 1+(rounds rc h b 64).b|2=>h 2+(rounds rc h b 64).c|3=>h 3+(rounds rc h b 64).d
 | 4=>h 4+(rounds rc h b 64).e|5=>h 5+(rounds rc h b 64).f|6=>h 6+(rounds rc h b 64).g|_=>h 7+(rounds rc h b 64).k
theorem WR(rc:Nat->BitVec 32)(h:Nat->BitVec 32)(b:Nat->BitVec 8):blk rc h b=(hc (hb rc h b)).toArray:=by
 rw[NV];unfold hc;rw[show List.range 8 = [0,1,2,3,4,5,6,7] by decide];simp only[List.map,hb,NU]
def Rounds(rc:Nat->BitVec 32)(w:World):Prop:=∀j,j<64->w.cell? ⟨1,j,none⟩=some (.int .u32 ((rc j).toNat:Int))
theorem Rounds.below{rc:Nat->BitVec 32}{w w':World}(h:Rounds rc w)(hb:Below w.heap.size w w'):Rounds rc w':=fun j hj=>(hb.cell (World.block_lt_of_cell? w _ (h j hj))).trans (h j hj)
theorem Rounds.grown{rc:Nat->BitVec 32}{w w':World}{p:Nat}(h:Rounds rc w)(hg:w.grownBy w' (some p))(hp:p≠1):Rounds rc w':=fun j hj =>
 (hg.cell_far ⟨1,j,none⟩ (World.block_lt_of_cell? w _ (h j hj)) (fun e=>hp (Option.some.inj e).symm)).trans (h j hj)
theorem E8(rc:Nat->BitVec 32)(h:Nat->BitVec 32)(b:Nat->BitVec 8)(w:World)(hr:Rounds rc w) :
 Calls Tryz.prog 190 #[.agg (hc h).toArray,.agg (bc b).toArray] w fun e w'=>e = .returned (.agg (hc (hb rc h b)).toArray)/\Below w.heap.size w w':=by
 rw[←WR];exact block _ _ (by simp[dH]) (by simp[iK]) rc h b (fun j hj=>by simpa using pM h j hj) (fun j hj=>by simpa using zZ b j hj) w hr
theorem EZ(h:Nat->BitVec 32):(hc h).toArray=#[.int .u32 ((h 0).toNat:Int),.int .u32 ((h 1).toNat:Int),.int .u32 ((h 2).toNat:Int),.int .u32 ((h 3).toNat:Int),.int .u32 ((h 4).toNat:Int),.int .u32 ((h 5).toNat:Int),.int .u32 ((h 6).toNat:Int),.int .u32 ((h 7).toNat:Int)]:=by
 unfold hc;rw[show List.range 8 = [0,1,2,3,4,5,6,7] by decide];rfl
theorem za7{w:World}{p:Nat}{cs:List Value}(h:w.rangeAt p 9 cs)(v1 v2 v3 v4 v5 v6 v7 v8:Value):((((((((w.setCell ⟨p,1,none⟩ v1).setCell ⟨p,2,none⟩ v2).setCell ⟨p,3,none⟩ v3).setCell ⟨p,4,none⟩ v4).setCell ⟨p,5,none⟩ v5).setCell ⟨p,6,none⟩ v6).setCell ⟨p,7,none⟩ v7).setCell ⟨p,8,none⟩ v8).rangeAt p 9 cs :=
 World.rangeAt_setCells_apart h p 1 [v1,v2,v3,v4,v5,v6,v7,v8] (.inr (.inr (by simp)))
theorem za8(w:World)(p:Nat)(x:Nat->BitVec 32):w.setCells p 1 (hc x)=((((((((w.setCell ⟨p,1,none⟩ (.int .u32 ((x 0).toNat:Int))).setCell ⟨p,2,none⟩ (.int .u32 ((x 1).toNat:Int))).setCell ⟨p,3,none⟩ (.int .u32 ((x 2).toNat:Int))).setCell ⟨p,4,none⟩ (.int .u32 ((x 3).toNat:Int))).setCell ⟨p,5,none⟩ (.int .u32 ((x 4).toNat:Int))).setCell ⟨p,6,none⟩ (.int .u32 ((x 5).toNat:Int))).setCell ⟨p,7,none⟩ (.int .u32 ((x 6).toNat:Int))).setCell ⟨p,8,none⟩ (.int .u32 ((x 7).toNat:Int))):=by
 unfold hc;rw[show List.range 8 = [0,1,2,3,4,5,6,7] by decide];rfl
def S.took(rc:Nat->BitVec 32)(s:S)(m:Nat):S :=
 if s.used+m=64 then { n:=s.n+m,h:=hb rc s.h s.b,b:=s.b,used:=0 } else { n:=s.n+m,h:=s.h,b:=s.b,used:=s.used+m }
set_option maxRecDepth 20000 in
theorem took(rc:Nat->BitVec 32)(p:Nat)(s:S)(m:Nat)(w:World)(hs:Is p s w)(hr:Rounds rc w)(hp:p≠1)(hu:s.used+m<=64)(hn:s.n+m<=4611686018427387904) :
 Calls Tryz.prog 150 #[.pointer (some ⟨p,0,none⟩),.int .i64 (m:Int)] w fun e w'=>e = .returned (.tuple #[])/\Is p (s.took rc m) w'/\w.grownBy w' (some p):=by
 have c0:=hs.n;have c1:=hs.used;have f0:=hs.qZ 0;have f1:=hs.qZ 73;have hs1:=hs.zdc (s.n+m);have e1:((s.n+m:Nat):Int)=(s.n:Int)+(m:Int):=(by omega);rw[e1]at hs1;clear e1
 go_enter Tryz.func150,Tryz.ntmps150;by_cases hq:s.used+m=64
 ·have hq':(s.used:Int)+(m:Int)=64:=(by omega);have hs2:Is p { n:=s.n+m,h:=s.h,b:=s.b,used:=64 } ((w.setCell ⟨p,0,none⟩ (.int .i64 ((s.n:Int)+(m:Int)))).setCell ⟨p,73,none⟩ (.int .i64 64)):=hs1.WQ 64;have hg2:w.grownBy ((w.setCell ⟨p,0,none⟩ (.int .i64 ((s.n:Int)+(m:Int)))).setCell ⟨p,73,none⟩ (.int .i64 64)) (some p):=(tu w ⟨p,0,none⟩ _).trans (tu _ ⟨p,73,none⟩ _);clear hs1
  go_wp2;have hu2:=Tryz.underlying170;have hi2:(Tryz.prog.info? 170).map (·.size)=some (bc s.b).length:=(by rw[iK];kernel_rfl);have hl2:=iK s.b;generalize hW:(w.setCell ⟨p,0,none⟩ (.int .i64 ((s.n:Int)+(m:Int)))).setCell ⟨p,73,none⟩ (.int .i64 64)=W at *;have hcl:=E8 rc s.h s.b;rw[EZ,EZ]at hcl;have hR:Rounds rc W.drew:=fun j hj=>Rounds.grown (p:=p) hr hg2 hp j hj
  clear hr hs c0 c1 f0 f1 hW;have hk:∀w',Below W.drew.heap.size W.drew w'->w'.cell? ⟨p,1,none⟩=some (.int .u32 ((s.h 0).toNat:Int))/\w'.cell? ⟨p,2,none⟩=some (.int .u32 ((s.h 1).toNat:Int))/\w'.cell? ⟨p,3,none⟩=some (.int .u32 ((s.h 2).toNat:Int))/\w'.cell? ⟨p,4,none⟩=some (.int .u32 ((s.h 3).toNat:Int))/\w'.cell? ⟨p,5,none⟩=some (.int .u32 ((s.h 4).toNat:Int))/\w'.cell? ⟨p,6,none⟩=some (.int .u32 ((s.h 5).toNat:Int))/\w'.cell? ⟨p,7,none⟩=some (.int .u32 ((s.h 6).toNat:Int))/\w'.cell? ⟨p,8,none⟩=some (.int .u32 ((s.h 7).toNat:Int))/\w'.frozen? ⟨p,1,none⟩=false/\w'.frozen? ⟨p,2,none⟩=false/\w'.frozen? ⟨p,3,none⟩=false/\w'.frozen? ⟨p,4,none⟩=false/\w'.frozen? ⟨p,5,none⟩=false/\w'.frozen? ⟨p,6,none⟩=false/\w'.frozen? ⟨p,7,none⟩=false/\w'.frozen? ⟨p,8,none⟩=false/\w'.rangeAt p 9 (bc s.b)/\w'.cell? ⟨p,73,none⟩=some (.int .i64 64)/\w'.frozen? ⟨p,73,none⟩=false/\Is p { n:=s.n+m,h:=s.h,b:=s.b,used:=64 } w'/\w.grownBy w' (some p):=fun w' hb=>by
   have i:=(hs2.kept (w':=W.drew) rfl).below hb;exact⟨i.cell 1 (by decide),i.cell 2 (by decide),i.cell 3 (by decide),i.cell 4 (by decide),i.cell 5 (by decide),i.cell 6 (by decide),i.cell 7 (by decide),i.cell 8 (by decide),i.qZ 1,i.qZ 2,i.qZ 3,i.qZ 4,i.qZ 5,i.qZ 6,i.qZ 7,i.qZ 8,i.br,i.used,i.qZ 73,i,hg2.trans (Dh (w:=W) ⟨hb.os,hb.tape,hb.output,hb.size,hb.block⟩ (some p))⟩
  obtain⟨q0,q1,q2,q3,q4,q5,q6,q7,q8,q9,q10,q11,q12,q13,q14,q15,q16,_⟩:=hk W.drew (Below.refl _ _);generalize bc s.b=cs2 at *;refine wp_region_held_drew (S:=fun w'=>w'.rangeAt p 9 cs2) (by kernel_rfl) q16 (fun hHeld=>?_);refine yT 0 ?_;refine yT 1 ?_;refine yT 2 ?_;refine yT 3 ?_;refine yT 5 ?_;refine yT 6 ?_;refine yT 7 ?_;refine' wpAnyH_take (i:=8) (v:=_) rfl (by kernel_rfl) (by kernel_rfl) (by kernel_rfl) (fun _ _ _ h=>h) (yieldsIf_load_mid (by rfl) _ _ rfl _ _ rfl _ _ ?hS ?hu ?hd ?hi) (by assumption) ?rest
  case hS=>(intro w hSw;exact hSw)
  case hu=>exact hu2
  case hd=>rfl
  case hi=>exact hi2
  simp only[Act.put,yP];refine yR 4 (fun K hK=>?_)
  go_simp;refine hK.out _ _ q16 (fun hHeld=>?_);clear hK K;refine yR 9 (fun K hK=>?_)
  go_simp
  go_at_call 190;refine Calls.mono (hcl W.drew hR) ?_;rintro e w1 ⟨rfl,hb1⟩;obtain⟨p0,p1,p2,p3,p4,p5,p6,p7,p8,p9,p10,p11,p12,p13,p14,p15,p16,p17,p18,hs3,hg3⟩:=hk w1 hb1;refine hK.out _ _ p16 (fun hHeld=>?_);clear hK K
  try simp only[Act.put,yP]
  refine yT 10 ?_;refine yT 11 ?_;refine yR 12 (fun K hK=>?_)
  go_simp;refine hK.out _ _ (za7 p16 _ _ _ _ _ _ _ _) (fun hHeld=>?_);clear hK K;refine wpAnyH_done (by kernel_rfl) ?_ _;clear hk hcl hR hs2 hg2 hu2 hi2 hl2 q0 q1 q2 q3 q4 q5 q6 q7 q8 q9 q10 q11 q12 q13 q14 q15 q16;have hs4:=(hs3.setH (hb rc s.h s.b)).WQ 0;have hg4:=(hg3.trans (dB p (hc (hb rc s.h s.b)) 1 _)).trans (tu _ ⟨p,73,none⟩ (.int .i64 ((0:Nat):Int)));have hq:=yH hq;have hs5:=yH hs4;have hg5:=yH hg4;clear hs3 hg3 hs4 hg4
  go_wp2_with fail
  go_end0;rw[←za8];unfold S.took;rw[if_pos hq.out];exact⟨rfl,hs5.out,hg5.out⟩
 ·have hq':¬(s.used:Int)+(m:Int)=64:=(by omega);have hs2:=hs1.WQ (s.used+m);rw[show((s.used+m:Nat):Int)=(s.used:Int)+(m:Int) by omega]at hs2;have hg2:w.grownBy ((w.setCell ⟨p,0,none⟩ (.int .i64 ((s.n:Int)+(m:Int)))).setCell ⟨p,73,none⟩ (.int .i64 ((s.used:Int)+(m:Int)))) (some p):=(tu w ⟨p,0,none⟩ _).trans (tu _ ⟨p,73,none⟩ _);clear hs1
  go_wp2
  go_end0;refine⟨rfl,?_,hg2⟩;unfold S.took;rw[if_neg hq];exact hs2
end ku

namespace ku
open Go.RowKit
/-- One byte. -/
def S.push(rc:Nat->BitVec 32)(s:S)(c:UInt8):S :=
 S.took rc { n:=s.n,h:=s.h,b:=fun j=>if j=s.used then c.toBitVec else s.b j,used:=s.used } 1
def S.wrote(rc:Nat->BitVec 32)(s:S)(l:List UInt8):S:=l.foldl (S.push rc) s
/-- Bytes laid into the buffer. -/
def S.fill(s:S)(l:List UInt8):S:={ n:=s.n,h:=s.h,b:=fun j=>if s.used<=j/\j<s.used+l.length then((l[j-s.used]?).getD 0).toBitVec else s.b j,used:=s.used }
theorem sF(rc:Nat->BitVec 32):∀(l:List UInt8) (s:S),l≠[]->s.used+l.length<=64->(s.fill l).took rc l.length=s.wrote rc l
 | [],_,h,_=>absurd rfl h
 | [c],s,_,_=>by
  show(s.fill [c]).took rc 1=s.push rc c;unfold S.push;congr 1;unfold S.fill;congr 1;funext j;by_cases hj:j=s.used
  ·subst hj;simp
  ·rw[if_neg hj,if_neg (by simp;omega)]
 | c :: d :: r,s,_,h=>by
  have hlen:(c :: d :: r).length=r.length+2:=rfl;have h1:s.used+1≠64:=(by simp at h;omega);have e:s.push rc c = { n:=s.n+1,h:=s.h,b:=fun j=>if j=s.used then c.toBitVec else s.b j,used:=s.used+1 }:=(by unfold S.push S.took;rw[if_neg h1]);have ih:=sF rc (d :: r) (s.push rc c) (by simp) (by rw[e];simp at h ⊢;omega);show(s.fill (c :: d :: r)).took rc (r.length+2)=(s.push rc c).wrote rc (d :: r);rw[←ih,e];have eb:(s.fill (c :: d :: r)).b=(S.fill { n:=s.n+1,h:=s.h,b:=fun j=>if j=s.used then c.toBitVec else s.b j,used:=s.used+1 } (d :: r)).b:=by
   unfold S.fill;funext j;simp only[List.length_cons];by_cases h0:j=s.used
   ·subst h0;rw[if_pos (by omega),if_neg (by omega),if_pos rfl];simp
   ·by_cases h2:s.used+1<=j/\j<s.used+1+(r.length+1)
    ·rw[if_pos (by omega),if_pos h2];obtain⟨m,rfl⟩:∃m,j=s.used+1+m:=⟨j-(s.used+1),by omega⟩;rw[show s.used+1+m-s.used=m+1 by omega,show s.used+1+m-(s.used+1)=m by omega];rfl
    ·rw[if_neg (by omega),if_neg h2,if_neg h0]
  unfold S.took;rw[eb];have a1:(s.fill (c :: d :: r)).used=s.used:=rfl;have a2:(S.fill { n:=s.n+1,h:=s.h,b:=fun j=>if j=s.used then c.toBitVec else s.b j,used:=s.used+1 } (d :: r)).used=s.used+1:=rfl;have a3:(s.fill (c :: d :: r)).n=s.n:=rfl;have a4:(S.fill { n:=s.n+1,h:=s.h,b:=fun j=>if j=s.used then c.toBitVec else s.b j,used:=s.used+1 } (d :: r)).n=s.n+1:=rfl;have a5:(s.fill (c :: d :: r)).h=s.h:=rfl;have a6:(S.fill { n:=s.n+1,h:=s.h,b:=fun j=>if j=s.used then c.toBitVec else s.b j,used:=s.used+1 } (d :: r)).h=s.h:=rfl;rw[a1,a2,a3,a4,a5,a6];simp only[List.length_cons];rw[show s.used+1+(r.length+1)=s.used+(r.length+2) by omega,show s.n+1+(r.length+1)=s.n+(r.length+2) by omega]
theorem Jr(rc:Nat->BitVec 32)(s:S)(c:UInt8)(h:s.used<64):(s.push rc c).used<64:=by
 unfold S.push S.took;dsimp only;split<;>dsimp only<;>omega
theorem WT(rc:Nat->BitVec 32)(s:S)(c:UInt8):(s.push rc c).n=s.n+1:=by
 unfold S.push S.took;dsimp only;split<;>rfl
theorem qf(rc:Nat->BitVec 32):∀(l:List UInt8) (s:S),s.used<64->(s.wrote rc l).used<64
 | [],_,h=>h
 | c :: r,s,h=>qf rc r _ (Jr rc s c h)
theorem uV(rc:Nat->BitVec 32):∀(l:List UInt8) (s:S),(s.wrote rc l).n=s.n+l.length
 | [],_=>rfl
 | c :: r,s=>by
  show(S.wrote rc (s.push rc c) r).n=_;rw[uV rc r,WT];simp;omega
theorem lZ(rc:Nat->BitVec 32)(s:S)(l r:List UInt8):s.wrote rc (l++r)=(s.wrote rc l).wrote rc r:=List.foldl_append
/-- 'copy(dst, t)', t a string: as much as there is room for. -/
theorem Au{P:Program}(w:World)(dT sT ty elem:TypeId)(b o dLen dCap:Nat)(t:ByteArray)
 (hu:P.underlying dT=some (.slice elem)) (hs:(P.info? elem).map (·.size)=some 1)
 (hc:∀j,j<Nat.min t.size dLen->(w.cell? ⟨b,o+j,none⟩).isSome=true) (hf:∀j,j<Nat.min t.size dLen->w.frozen? ⟨b,o+j,none⟩=false) :
 (Builtin.copy_ #[dT,sT] ty #[.slice (some ⟨b,o,none⟩) dLen dCap,.string t]).run P w = .ok (goInt (Nat.min t.size dLen)) (w.setCells b o (Lib.byteCells (t.data.toList.take (Nat.min t.size dLen)))):=by
 have hl:((Lib.byteCells t.data.toList).take (Nat.min t.size dLen)).length=Nat.min t.size dLen:=(by rw[List.length_take,Lib.byteCells_length,show t.data.toList.length=t.size by simp];exact Nat.min_eq_left (Nat.min_le_left t.size dLen));have hst:=run_storeCells_cells (P:=P) b o ((Lib.byteCells t.data.toList).take (Nat.min t.size dLen)) 0 w (by rw[hl];simpa using hc) (by rw[hl];simpa using hf) (by
  intro v hv;obtain⟨x,_,rfl⟩:=List.mem_map.1 (List.mem_of_mem_take hv);rfl)
 cases hq:P.info? elem with
 | none=>simp[hq]at hs
 | some i =>
  have h1:i.size=1:=(by simpa[hq]using hs);simp[Builtin.copy_,run_underlying hu,Builtin.lenOf,Builtin.firstCells,sizeOf,typeInfo,hq];have hst':Sem.run P (storeCells ⟨b,o,none⟩ (List.take (t.size.min dLen) (List.map (fun b=>Value.int IntKind.u8 (b.toNat:Int)) t.data.toList))) w=_:=hst;rw[hst'];simp[Lib.byteCells,List.map_take]
theorem Is.fill{p:Nat}{s:S}{w:World}(h:Is p s w)(l:List UInt8)(hl:s.used+l.length<=64):Is p (s.fill l) (w.setCells p (9+s.used) (Lib.byteCells l)):=by
 refine h.sets (s':=s.fill l) (9+s.used) (Lib.byteCells l) (by rw[Lib.byteCells_length];omega) (fun j hj=>?_) (fun j hj ho=>?_)
 ·rw[Lib.byteCells_length]at hj;unfold S.cf S.fill;dsimp only;rw[if_neg (by omega),if_neg (by omega),if_pos (by omega),if_pos (by omega)];rw[show 9+s.used+j-9-s.used=j by omega,List.getElem?_eq_getElem hj];simp[Lib.byteCells]
 ·rw[Lib.byteCells_length]at ho;unfold S.cf S.fill;dsimp only;by_cases h0:j=0
  ·rw[if_pos h0,if_pos h0]
  ·rw[if_neg h0,if_neg h0];by_cases h1:j<9
   ·rw[if_pos h1,if_pos h1]
   ·rw[if_neg h1,if_neg h1];by_cases h2:j<73
    ·rw[if_pos h2,if_pos h2,if_neg (by omega)]
    ·rw[if_neg h2,if_neg h2]
/-- .. as one step of a region that draws. -/
theorem xU{P:Program}{ops:Array Oper}{o:Oper}{a:Act}{w:World}{K:Act->World->Prop}{Q:Exit->Act->World->Prop}{E:Prop}
 (hg:o.guard=none) (d x:Operand) (dT sT:TypeId) (hop:o.op=Op.call { callee:=Callee.builtin Builtin.copy,args:=#[d,x],argTypes:=#[dT,sT] })
 (elem:TypeId) (hu:P.underlying dT=some (.slice elem)) (hs:(P.info? elem).map (·.size)=some 1)
 (b off dLen dCap:Nat) (hd:a.eval d = .slice (some ⟨b,off,none⟩) dLen dCap) (t:ByteArray) (hx:a.eval x = .string t) (m:Nat) (hm:Nat.min t.size dLen=m)
 (hc:∀j,j<m->(w.cell? ⟨b,off+j,none⟩).isSome=true) (hf:∀j,j<m->w.frozen? ⟨b,off+j,none⟩=false)
 (hK:K (a.put o.dst (goInt m)) (w.setCells b off (Lib.byteCells (t.data.toList.take m)))) :
 if Region.wanted o (yielded ops a.tmps)=true then Oper.wp P o a w K Q else E:=by
 subst hm;have hw:Region.wanted o (yielded ops a.tmps)=true:=(by simp[Region.wanted,hg]);rw[if_pos hw];have hrun:=Au (P:=P) w dT sT o.type elem b off dLen dCap t hu hs hc hf;unfold Oper.wp;simp[execOp,hop,resolve,invoke,builtin,hd,hx,hrun,Result.andThen];exact hK
def zdd:Value->ByteArray | .string t=>t|_=>ByteArray.empty
set_option maxRecDepth 20000 in
theorem yU(rc:Nat->BitVec 32)(p:Nat)(s:S)(t:ByteArray)(w:World)(hs:Is p s w)(hr:Rounds rc w)(hp:p≠1)(hu:s.used<64)(hn:s.n+t.size<=4611686018427387904) :
 Calls Tryz.prog 112 #[.pointer (some ⟨p,0,none⟩),.string t] w fun e w'=>e = .returned (.tuple #[])/\Is p (s.wrote rc t.data.toList) w'/\w.grownBy w' (some p):=by
 go_enter Tryz.func112,Tryz.ntmps112
 go_wp2_with fail
 go_loopw [1] (fun v wr=>∃(k:Nat) (t':ByteArray),k+t'.size=t.size/\t'.data.toList=t.data.toList.drop k/\v = .string t'/\Is p (s.wrote rc (t.data.toList.take k)) wr/\w.grownBy wr (some p)) (fun v _=>(zdd v).size)
 case atStart=>exact⟨0,t,by omega,by simp,rfl,by simpa[S.wrote]using hs,⟨rfl,rfl,rfl,Nat.le_refl _,fun _ _ _=>rfl⟩⟩
 case round =>
  obtain⟨k,t',hk,ht',rfl,his,hg⟩:=hrel;by_cases h0:0<t'.size
  ·have hu':=qf rc (t.data.toList.take k) s hu;have hn':=uV rc (t.data.toList.take k) s;rw[List.length_take,show t.data.toList.length=t.size by simp,Nat.min_eq_left (by omega)]at hn';generalize hq:s.wrote rc (t.data.toList.take k)=q at *;have e0:(0:Int)<(t'.size:Int):=(by omega);have e1:(0:Int)<=(q.used:Int):=(by omega);have e2:(q.used:Int)<=64:=(by omega);have c1:=his.used;have hne:¬64=q.used:=(by omega);have hi:(Tryz.prog.info? 5).map (·.size)=some 1:=(by kernel_rfl);obtain⟨m,hm⟩:∃m,Nat.min t'.size (64-q.used)=m:=⟨_,rfl⟩;have m1:m<=t'.size:=hm▸Nat.min_le_left _ _;have m2:m<=64-q.used:=hm▸Nat.min_le_right _ _;have m3:m=t'.size∨m=64-q.used:=by
    rcases Nat.le_total t'.size (64-q.used)with h|h
    ·exact .inl (hm▸Nat.min_eq_left h)
    ·exact .inr (hm▸Nat.min_eq_right h)
   have hth:=(his.kept (w':=wr.drew) rfl).th (9+q.used) m (by omega);have hcc:∀j,j<m->(wr.drew.cell? ⟨p,9+q.used+j,none⟩).isSome=true:=fun j hj=>(hth j hj).1
   have hff:∀j,j<m->wr.drew.frozen? ⟨p,9+q.used+j,none⟩=false:=fun j hj=>(hth j hj).2
   have hlm:(t'.data.toList.take m).length=m:=(by rw[List.length_take,show t'.data.toList.length=t'.size by simp];omega);have hk2:(wr.drew.setCells p (9+q.used) (Lib.byteCells (t'.data.toList.take m))).cell? ⟨p,73,none⟩=some (.int .i64 (q.used:Int)):=(by rw[World.cell?_setCells_out p _ _ _ ⟨p,73,none⟩ (fun _ _=>.inr (by show 9+q.used+_<=73;rw[Lib.byteCells_length,hlm];omega))];exact his.used);have hfl:=(his.kept (w':=wr.drew) rfl).fill (t'.data.toList.take m) (by rw[hlm];omega);have hft:=sF rc (t'.data.toList.take m) q;rw[hlm]at hft;have htt:=yH ht';have hkk:=yH hk;clear ht' hk;have hid:=yH hfl;have hgd:=yH hg;have htd:=yH hft;have hmd:=yH m3;clear his hg hth hfl hft m3
   go_wp2
   go_region_held3 (fun w'=>w'.cell? ⟨p,73,none⟩=some (.int .i64 (q.used:Int))) (first|assumption|exact hk2|go_keep) ((refine xU (by rfl) (.tmp 15) (.tmp 16) 108 9 (by rfl) 5 Tryz.underlying108 hi p (9+q.used) (64-q.used) (64-q.used) (by rfl) t' (by rfl) m hm ?_ ?_ ?_;(first|exact hcc|skip);(first|exact hff|skip)))
   have e3:(0:Int)<=(m:Int):=(by omega);have e4:(m:Int)<=(t'.size:Int):=(by omega);have hgw:w.grownBy (wr.drew.setCells p (9+q.used) (Lib.byteCells (t'.data.toList.take m))) (some p):=(hgd.out.trans (Dh (w:=wr) (w':=wr.drew) ⟨rfl,rfl,rfl,Nat.le_refl _,fun _ _=>rfl⟩ (some p))).trans (dB p _ _ _);have hRr:Rounds rc (wr.drew.setCells p (9+q.used) (Lib.byteCells (t'.data.toList.take m))):=hr.grown hgw hp;have hgh:=yH hgw;clear hgw
   go_wp2_with (go_at_call 150;refine Calls.mono (took rc p (q.fill (t'.data.toList.take m)) m _ hid.out hRr hp (by show q.used+m<=64;omega) (by show q.n+m<=_;have:=hkk.out;omega)) ?_;rintro e w2 ⟨rfl,hi2,hg2⟩)
   go_roundw
   case rel =>
    have ht':=htt.out;have hk:=hkk.out;have m3:=hmd.out;have hsz:t'.data.toList.length=t'.size:=(by simp);refine⟨k+m,t'.extract m t'.size,by simp;omega,?_,rfl,?_,hgh.out.trans hg2⟩
    ·have:(t'.extract m t'.size).data.toList=t'.data.toList.drop m:=(by rw[Lib.extract_data,List.take_of_length_le (by rw[List.length_drop,hsz];exact Nat.le_refl _)]);rw[this,ht',List.drop_drop]
    ·rw[htd.out (fun e=>by have:=congrArg List.length e;rw[hlm]at this;simp at this;omega) (by omega)]at hi2;rw[List.take_add,lZ,hq,←ht'];exact hi2
   case measure =>
    have m3:=hmd.out;show(t'.extract m t'.size).size<t'.size;simp;omega
  ·have h1:t'.size=0:=(by omega);have e0:¬(0:Int)<(t'.size:Int):=(by omega);have hkz:k=t.size:=(by omega);have hfin:Is p (s.wrote rc t.data.toList) wr:=(by rw[hkz,List.take_of_length_le (by simp)]at his;exact his);have hd:=yH hfin;have hgd:=yH hg;clear his hg hfin ht' hk hkz
   go_wp2
   go_end0;exact⟨rfl,hd.out,hgd.out⟩
end ku
end Go.Proofs.YtmmmghpimdfleaaGreatDoor
