/-
  yw.IM.
  The contracts of strings.Builder's copyCheck, WriteByte, WriteString and String, at a builder that the call itself has made.
  strings.Builder that String has read, Grow, Len; after the shelf's proofs, typed over the dump's numbers.
  strings.Join at the separator ":".
  strings.Repeat of the byte 0, up to seven times; wire.Int, Text.
  (For nar.writer, which zc5 a Builder.) The contracts of strings.Builder's copyCheck, WriteByte, WriteString and String, at a builder that the call itself has made.
-/
import Derived.Test.YtmmmghpimdfleaaGreatDoorTk
import Derived.Test.YtmmmghpimdfleaaGreatDoorGrpB
import Derived.Test.YtmmmghpimdfleaaGreatDoorGrpA
import Derived.Test.YtmmmghpimdfleaaGreatDoorGrpD
import Derived.Test.YtmmmghpimdfleaaGreatDoorProg
import Derived.Lib.Strings
import Derived.Lib.Slices
import Derived.Lib.Walk
import Derived.Lib.Builder
import Derived.Lib.AppendStr
import Derived.Lib.UnsafeStr
import Derived.WalkKit
import Derived.Laws.Externs
import Derived.Laws.IdiomCopy
import Derived.Laws.BitsLemmas
import Derived.KernelRfl
import Derived.Lib.FrozenHead
import Derived.Lib.RepeatB
import Derived.Lib.MakeNoZero
import Derived.Lib.Hide
import Derived.Deep.DeepFit
import Derived.Test.YtmmmghpimdfleaaGreatDoorGrpC
import Derived.Deep.LoopGhost
set_option linter.unusedVariables false
set_option maxHeartbeats 4000000
namespace Go.Proofs.YtmmmghpimdfleaaGreatDoor
namespace Pre
open Go.RowKit Mem
def jO(l:List ByteArray)(k:Nat)(x:ByteArray):Bool:=match k with
 | 0=>false
 | j+1=>match l[j]? with
  | none=>false
  | some y=>Op.bytesLess x.toList y.toList||x.toList==y.toList
def dS(l:List ByteArray)(k:Nat):Bool:=match l[k]? with
 | none=>false
 | some x=>decide (aF x≠0)||jO l k x
def Wp(l:List ByteArray):Bool:=(List.range l.length).all fun k=>!dS l k
def bZ(l:List ByteArray):Int:=if 1024<l.length then 171 else if Wp l=true then 0 else 133
theorem oH{l:List ByteArray}(h1:¬1024<l.length)(k:Nat)(hk:k<l.length)(hb:dS l k=true):bZ l=133:=by
 unfold bZ;rw[if_neg h1,if_neg];intro h;have:=List.all_eq_true.mp h k (List.mem_range.mpr hk);rw[hb]at this;cases this
theorem ND{l:List ByteArray}(h1:¬1024<l.length)(h:∀k,k<l.length->dS l k=false):bZ l=0:=by
 unfold bZ;rw[if_neg h1,if_pos];exact List.all_eq_true.mpr fun k hk=>by rw[h k (List.mem_range.mp hk)];rfl
theorem jv(s:ByteArray):∃a b:ByteArray,dY s = .tuple #[.string a,.string b,.int .i64 (aF s)]:=by
 unfold dY;by_cases h:aF s=0
 ·rw[if_pos h,h];exact⟨_,_,rfl⟩
 ·rw[if_neg h];exact⟨_,_,rfl⟩
theorem bel3{w wr w2:World}(h:Below wr.heap.size wr w2)(hb:Below w.heap.size w wr):Below w.heap.size wr w2:=h.mono hb.size
set_option maxRecDepth 20000 in
theorem yD(v:Value)(l:List ByteArray)(w:World)(hr:Texts.Reads w v l) :
 Calls Tryz.prog 34 #[v] w fun e w'=>e = .returned (.int .i64 (bZ l))/\Below w.heap.size w w':=by
 rcases hr with⟨ao,cap,rfl,rfl⟩|⟨b,off,cap,rfl,hm,hc⟩
 ·have hE:bZ []=0:=(by rfl);rw[hE];clear hE
  go_enter Tryz.func34,Tryz.ntmps34
  go_wp2_with fail
  go_loopw [13] (fun i wr=>i = .int .i64 0/\Hid (w=wr)) (fun _ _=>0)
  case atStart=>exact⟨rfl,yH rfl⟩
  case round =>
   obtain⟨rfl,hw⟩:=hrel;obtain rfl:=hw.out
   go_wp2_with fail
   go_ret;exact⟨rfl,Below.refl _ _⟩
 by_cases hbig:1024<l.length
 ·have hE:bZ l=171:=(by unfold bZ;rw[if_pos hbig]);have h1:(1024:Int)<l.length:=(by omega);rw[hE];clear hE hc hm
  go_enter Tryz.func34,Tryz.ntmps34
  go_wp2_with fail
  go_ret;exact⟨rfl,Below.refl _ _⟩
 obtain⟨n,hn⟩:∃n,l.length=n:=⟨_,rfl⟩;rw[hn]at hbig ⊢;have h1:(n:Int)<=1024:=(by omega);have Hn:=yH hn;have Hc:=yH hc;clear hc hm hn
 go_enter Tryz.func34,Tryz.ntmps34
 go_wp2_with fail
 go_loopw [13] (fun i wr=>∃k:Nat,k<=n/\i = .int .i64 k/\Hid (∀j,j<k->dS l j=false)/\Below w.heap.size w wr) (fun i _=>n-(intOf i).toNat)
 case atStart=>exact⟨0,by omega,rfl,yH (fun j h=>absurd h (by omega)),Below.refl _ _⟩
 case round =>
  obtain⟨k,hk,rfl,vU,hb⟩:=hrel;by_cases hlt:k<n
  ·have k0:(0:Int)<=(k:Int):=Int.natCast_nonneg _;have k1:(k:Int)<(n:Int):=(by omega);have hkl:k<l.length:=(by rw[Hn.out];exact hlt);have hcl:=Hc.out k hkl;have g1:wr.cell? ⟨b,off+k,none⟩=some (.string l[k]):=(by rw[hb.cell (p:=⟨b,off+k,none⟩) (World.block_lt_of_cell? w _ hcl)];exact hcl);have hlk:l[k]? = some l[k]:=List.getElem?_eq_getElem hkl;obtain⟨x,hx⟩:∃x,l[k]=x:=⟨_,rfl⟩;rw[hx]at g1 hlk;obtain⟨pa,pb,hpe⟩:=jv x;have Wq:=vV x wr;rw[hpe]at Wq;by_cases hz:aF x=0
   ·rw[hz]at Wq;by_cases hkz:k=0
    ·have hbad:dS l k=false:=(by subst hkz;simp[dS,hlk,hz,jO]);have HB:=yH hbad;have hk2:¬(0:Int)<(k:Int):=(by omega);clear hcl hlk hpe hz hx hbad hkz
     go_wp2_with (first|(refine Wq.mono ?_;rintro e w2 ⟨rfl,hb1⟩))
     go_roundw
     case rel=>exact⟨k+1,by omega,by go_num,yH (fun j hj=>by
      rcases Nat.lt_succ_iff_lt_or_eq.mp hj with h|h
      ·exact vU.out j h
      ·rw[h];exact HB.out),hb.trans (bel3 hb1 hb)⟩
     case measure=>simp[intOf];omega
    ·obtain⟨j,hkj⟩:∃j,k=j+1:=⟨k-1,by omega⟩;have hk2:(0:Int)<(k:Int):=(by omega);have hjl:j<l.length:=(by omega);have hcj:=Hc.out j hjl;have hlj:l[j]? = some l[j]:=List.getElem?_eq_getElem hjl;obtain⟨y,hy⟩:∃y,l[j]=y:=⟨_,rfl⟩;rw[hy]at hcj hlj;have yz:=World.block_lt_of_cell? w _ hcj;have hbe:dS l k=(Op.bytesLess x.toList y.toList||x.toList==y.toList):=(by unfold dS;rw[hlk];simp only[hz,ne_eq,not_true_eq_false,decide_false,Bool.false_or];subst hkj;simp[jO,hlj]);have j0:(0:Int)<=(j:Int):=Int.natCast_nonneg _;have j1:(j:Int)<n:=(by omega);have hkm:(k:Int)-1=(j:Int):=(by omega);have g2:∀w2,Below wr.heap.size wr w2->w2.cell? ⟨b,off+j,none⟩=some (.string y):=fun w2 h2=>by
      rw[h2.cell (p:=⟨b,off+j,none⟩) (Nat.lt_of_lt_of_le yz hb.size),hb.cell (p:=⟨b,off+j,none⟩) yz];exact hcj
     have G2:=yH g2;cases hbb:dS l k
     ·rw[hbb]at hbe;have zc6:=hbe.symm;have HB:=yH hbb;clear hcl hlk hpe hz hx hkz hkj hcj hlj hy hbe hbb g2
      go_wp2_with (first|(refine Wq.mono ?_;rintro e w2 ⟨rfl,hb1⟩;have g3:=G2.out w2 hb1))
      go_roundw
      case rel=>exact⟨k+1,by omega,by go_num,yH (fun j hj=>by
       rcases Nat.lt_succ_iff_lt_or_eq.mp hj with h|h
       ·exact vU.out j h
       ·rw[h];exact HB.out),hb.trans (bel3 hb1 hb)⟩
      case measure=>simp[intOf];omega
     ·rw[hbb]at hbe;have zc6:=hbe.symm;have hE:=oH (l:=l) (by rw[Hn.out];exact hbig) k hkl hbb;have HE:=yH hE;clear hcl hlk hpe hz hx hkz hkj hcj hlj hy hbe hbb g2 hE
      go_wp2_with (first|(refine Wq.mono ?_;rintro e w2 ⟨rfl,hb1⟩;have g3:=G2.out w2 hb1))
      go_ret;exact⟨by show Ending.returned (.int .i64 133)=_;rw[HE.out],hb.trans (bel3 hb1 hb)⟩
   ·have hbb:dS l k=true:=(by simp[dS,hlk,hz]);have hE:=oH (l:=l) (by rw[Hn.out];exact hbig) k hkl hbb;have HE:=yH hE;generalize aF x=z at Wq hz;clear hcl hlk hpe hx hbb hE
    go_wp2_with (first|(refine Wq.mono ?_;rintro e w2 ⟨rfl,hb1⟩))
    go_ret;exact⟨by show Ending.returned (.int .i64 133)=_;rw[HE.out],hb.trans (bel3 hb1 hb)⟩
  ·have hE:=ND (l:=l) (by rw[Hn.out];exact hbig) (fun j hj=>vU.out j (by have:=Hn.out;omega));have HE:=yH hE;have hge:¬(k:Int)<n:=(by omega);clear hE
   go_wp2_with fail
   go_ret;exact⟨by show Ending.returned (.int .i64 0)=_;rw[HE.out],hb⟩
end Pre

namespace Bg
open Go.RowKit
theorem Dc:(Tryz.prog.info? 154).map (·.size)=some 2:=by kernel_rfl
theorem NF:liesAt Tryz.prog Tryz.prog.depth 154 (2 / Tryz.prog.cellsOf 154) 0 154 1=true:=by kernel_rfl
theorem infoByte:(Tryz.prog.info? 5).map (fun i=>(i.zero,i.size,i.bytes))=some (some (.int .u8 0),1,1):=by kernel_rfl
theorem cellsByte:Tryz.prog.cellsOf 5=1:=by kernel_rfl
theorem uB:Tryz.prog.underlying 152=some (.pointer 154):=Tryz.underlying152
theorem uU:Tryz.prog.underlying 254=some .unsafePointer:=Tryz.underlying254
theorem uS:Tryz.prog.underlying 108=some (.slice 5):=Tryz.underlying108
theorem uT:Tryz.prog.underlying 9=some .string:=Tryz.underlying9
theorem uP:Tryz.prog.underlying 204=some (.pointer 5):=Tryz.underlying204
theorem sU(v:Value)(w:World):(callFunc 195 #[v]).run Tryz.prog w = .ok (.value v) w:=by
 rw[run_callFunc_extern (e:=Extern.AbiNoEscape.same) Tryz.func195 (by kernel_rfl) (by kernel_rfl) (by kernel_rfl) (by kernel_rfl)];rfl
theorem iy(b:Nat)(w:World)(h0:w.cell? ⟨b,0,none⟩=some (.pointer (some ⟨b,0,none⟩))) :
 Calls Tryz.prog 153 #[.pointer (some ⟨b,0,none⟩)] w fun e w'=>e = .returned (.tuple #[])/\w=w':=by
 obtain⟨j,hj,_⟩:=Option.map_eq_some_iff.1 Dc;have hne:=fun w=>Lib.run_neq_ptr_same (P:=Tryz.prog) w ⟨b,0,none⟩ uB hj
 clear hj
 go_enter Tryz.func153,Tryz.ntmps153
 go_wp2
 go_end0;exact⟨rfl,rfl⟩
theorem eG(b:Nat)(w:World)(h0:w.cell? ⟨b,0,none⟩=some (.pointer none))(hsh:w.shape? b=some (154,2))(hfz:w.frozen? ⟨b,0,none⟩=false) :
 Calls Tryz.prog 153 #[.pointer (some ⟨b,0,none⟩)] w fun e w'=>e = .returned (.tuple #[])/\w.setCell ⟨b,0,none⟩ (.pointer (some ⟨b,0,none⟩))=w':=by
 obtain⟨j,hj,hjs⟩:=Option.map_eq_some_iff.1 Dc;have hto:=Lib.run_to_unsafe (P:=Tryz.prog) w ⟨b,0,none⟩ uB uU hj (by rw[hjs];decide) hsh (Nat.zero_lt_succ 1);have za2:=Lib.run_from_unsafe (P:=Tryz.prog) w ⟨b,0,none⟩ uU uB hj hsh NF;have zc7:=sU;have hne:=fun w=>Lib.run_neq_ptr_same (P:=Tryz.prog) w ⟨b,0,none⟩ uB hj
 clear hj hjs hsh
 go_enter Tryz.func153,Tryz.ntmps153
 go_wp2
 go_end0;exact⟨rfl,rfl⟩
theorem copyCheck(B b:Nat)(bs:List Value)(w:World)(h:Lib.IsBuilder 154 5 B b bs w) :
 Calls Tryz.prog 153 #[.pointer (some ⟨b,0,none⟩)] w fun e w'=>e = .returned (.tuple #[])/\(Lib.BuilderAt 154 5 B b (.pointer (some ⟨b,0,none⟩)) bs w'/\Below B w w'):=by
 rcases h with h|h
 ·refine(eG b w h.cell0 h.shape h.frozen0).mono ?_;rintro e w' ⟨rfl,rfl⟩;exact⟨rfl,h.used _,(Below.refl B w).setCell (p:=⟨b,0,none⟩) h.1 _⟩
 ·refine(iy b w h.cell0).mono ?_;rintro e w' ⟨rfl,rfl⟩;exact⟨rfl,h,Below.refl B _⟩
theorem writeString(B b:Nat)(bs:List Value)(s:ByteArray)(w:World)(h:Lib.IsBuilder 154 5 B b bs w)(hlen:bs.length+s.size<=140737488355328)(hBw:B<=w.heap.size) :
 Calls Tryz.prog 116 #[.pointer (some ⟨b,0,none⟩),.string s] w fun e w'=>e = .returned (.tuple #[.int .i64 s.size,.nilIface])/\(Lib.BuilderAt 154 5 B b (.pointer (some ⟨b,0,none⟩)) (bs++Lib.strCells s) w'/\Below B w w'):=by
 obtain⟨i0,hi,hz0,hz1,hz2⟩:=info_parts infoByte
 go_enter Tryz.func116,Tryz.ntmps116
 go_wp2_with fail;refine(copyCheck B b bs _ h).mono ?_;rintro e w1 ⟨rfl,h1,hb1⟩;obtain⟨hB,v,hbk,hown,hne⟩:=h1;have c0:w1.cell? ⟨b,0,none⟩=some (.pointer (some ⟨b,0,none⟩)):=(by rw[Lib.cell_of_heap hbk];rfl);have c1:w1.cell? ⟨b,1,none⟩=some v:=(by rw[Lib.cell_of_heap hbk];rfl)
 go_wp2_with (at_builtin;refine Lib.wpList_append_own_string _ rfl _ _ 108 9 rfl B 5 i0 uS uT hi hz0 hz1 hz2 _ _ _ rfl hown s rfl ?c3 ?c4 ?c5 ?_)
 case c3=>unfold maxLen;omega
 case c4=>omega
 case c5=>have:=hb1.size;omega
 intro v' w2 hown' hgrow _;have hlt:b<w1.heap.size:=by
  rcases Nat.lt_or_ge b w1.heap.size with h'|h'
  ·exact h'
  ·simp[Array.getElem?_eq_none h']at hbk
 have hb2:w2.heap[b]? = some (.cells #[.pointer (some ⟨b,0,none⟩),v] 154 (0,0)):=(by rw[hgrow.block b hlt (fun e=>hne e.symm)];exact hbk);have d0:w2.cell? ⟨b,0,none⟩=some (.pointer (some ⟨b,0,none⟩)):=(by rw[Lib.cell_of_heap hb2];rfl);have d1:w2.cell? ⟨b,1,none⟩=some v:=(by rw[Lib.cell_of_heap hb2];rfl);have f1:w2.frozen? ⟨b,1,none⟩=false:=Lib.frozen_of_heap hb2 1;obtain⟨ao,n',cap,rfl⟩:∃ao n' cap,v' = .slice ao n' cap:=by
  rcases hown'.2 with⟨hv,_⟩|⟨g,cap,cur,hv,_⟩
  ·exact⟨_,_,_,hv⟩
  ·exact⟨_,_,_,hv⟩
 go_wp2
 go_ret2;refine⟨rfl,?_,?_⟩
 ·exact Lib.BuilderAt.put (T:=154) (e:=5) hB hb2 (bs':=bs++Lib.strCells s) (by simpa[Lib.strCells_length]using hown') (by decide)
 ·exact(hb1.grown hgrow (by have:=hb1.size;omega) (fun k hk=>(hown.lt k hk).1)).setCell (p:=⟨b,1,none⟩) hB _
theorem nT(B b:Nat)(l:List UInt8)(w:World)(h:Lib.IsBuilder 154 5 B b (Lib.byteCells l) w)(h0:l≠[]) :
 Calls Tryz.prog 110 #[.pointer (some ⟨b,0,none⟩)] w fun e w'=>e = .returned (.string ⟨l.toArray⟩)/\Below B w w':=by
 obtain⟨p,hB,v,hbk,hown,hne⟩:∃p,Lib.BuilderAt 154 5 B b p (Lib.byteCells l) w:=by
  rcases h with h|h
  ·exact⟨_,h⟩
  ·exact⟨_,h⟩
 have hl0:l.length≠0:=(by simpa using h0);rw[Lib.byteCells_length]at hown;obtain⟨g,cap,cur,rfl,hbg,hg,hnc,hcm,hcs,htake⟩:∃g cap cur,v = .slice (some ⟨g,0,none⟩) l.length cap/\B<=g/\w.heap[g]? = some (.cells cur 5 (0,0))/\l.length<=cap/\cap<=maxLen/\cur.size=cap*1/\cur.toList.take (l.length*1)=Lib.byteCells l:=by
  rcases hown.2 with⟨_,hz⟩|⟨g,cap,cur,hv,r⟩
  ·exact absurd hz hl0
  ·exact⟨g,cap,cur,hv,r⟩
 have c1:w.drew.cell? ⟨b,1,none⟩=some (.slice (some ⟨g,0,none⟩) l.length cap):=(by have:w.drew.heap[b]? = some (.cells #[p,.slice (some ⟨g,0,none⟩) l.length cap] 154 (0,0)):=hbk;rw[Lib.cell_of_heap this];rfl);have hSD:(Builtin.unsafeSliceData_ #[108] 204 #[.slice (some ⟨g,0,none⟩) l.length cap]).run Tryz.prog w.drew = .ok (.pointer (some ⟨g,0,none⟩)) w.drew :=
  Lib.run_unsafeSliceData_row _ _ _ _ _ _ (by omega)
 have hUS:(Builtin.unsafeString_ #[204,3] 9 #[.pointer (some ⟨g,0,none⟩),.int .i64 l.length]).run Tryz.prog w.drew = .ok (.string ⟨l.toArray⟩) (w.drew.freeze ⟨g,0,none⟩ l.length):=(by refine Lib.run_unsafeString_row w.drew 204 3 9 5 uP cellsByte g cur.size (by have hg':w.drew.heap[g]? = some (.cells cur 5 (0,0)):=hg;simp[World.shape?,hg']) l h0 (by omega) (by unfold maxLen at hcm;omega) ?_;intro j x hx;have:=hown.cells (g:=g) rfl j (.int .u8 x.toNat) (by simp[Lib.byteCells,hx]);exact this)
 go_enter Tryz.func110,Tryz.ntmps110
 go_wp2
 go_region
 all_goals (go_wp2;go_ret;exact⟨rfl,Lib.below_freeze (Below.drew (Below.refl B w)) (p:=⟨g,0,none⟩) hbg _⟩)
theorem mg(W:World)(q:Option Addr):(Builtin.unsafeString_ #[204,3] 9 #[.pointer q,.int .i64 0]).run Tryz.prog W = .ok (.string .empty) W :=
 Lib.run_unsafeString_none W _ _ _ q
theorem pW(B b:Nat)(p:Value)(w:World)(hbk:w.heap[b]? = some (.cells #[p,.slice none 0 0] 154 (0,0))) :
 Calls Tryz.prog 110 #[.pointer (some ⟨b,0,none⟩)] w fun e w'=>e = .returned (.string ⟨#[]⟩)/\Below B w w':=by
 have hUS:=mg;have c1:w.drew.cell? ⟨b,1,none⟩=some (.slice none 0 0):=(by have:w.drew.heap[b]? = some (.cells #[p,.slice none 0 0] 154 (0,0)):=hbk;rw[Lib.cell_of_heap this];rfl);have hSD:(Builtin.unsafeSliceData_ #[108] 204 #[.slice none 0 0]).run Tryz.prog w.drew = .ok (.pointer none) w.drew:=rfl
 go_enter Tryz.func110,Tryz.ntmps110
 go_wp2
 go_region
 all_goals (go_wp2;go_ret;exact⟨rfl,Below.drew (Below.refl B w)⟩)
theorem kQ(B b g:Nat)(p:Value)(cur:Array Value)(w:World)(hBw:B<=w.heap.size)(hbk:w.heap[b]? = some (.cells #[p,.slice (some ⟨g,0,none⟩) 0 0] 154 (0,0)))(hg:w.heap[g]? = some (.cells cur 5 (0,0))) :
 Calls Tryz.prog 110 #[.pointer (some ⟨b,0,none⟩)] w fun e w'=>e = .returned (.string ⟨#[]⟩)/\Below B w w':=by
 have hUS:=mg;have hlt:b<w.heap.size:=by
  rcases Nat.lt_or_ge b w.heap.size with h'|h'
  ·exact h'
  ·simp[Array.getElem?_eq_none h']at hbk
 have c1:w.drew.cell? ⟨b,1,none⟩=some (.slice (some ⟨g,0,none⟩) 0 0):=(by have:w.drew.heap[b]? = some (.cells #[p,.slice (some ⟨g,0,none⟩) 0 0] 154 (0,0)):=hbk;rw[Lib.cell_of_heap this];rfl);have hSD:(Builtin.unsafeSliceData_ #[108] 204 #[.slice (some ⟨g,0,none⟩) 0 0]).run Tryz.prog w.drew = .ok (.pointer (some ⟨w.drew.heap.size,0,none⟩)) (w.drew.alloc (.view ⟨g,0,none⟩ 5)) :=
  Lib.run_unsafeSliceData_zero w.drew _ _ 5 uP ⟨g,0,none⟩ 0 (5,cur.size) (by have hg':w.drew.heap[g]? = some (.cells cur 5 (0,0)):=hg;simp[World.shape?,hg'])
 have c2:(w.drew.alloc (.view ⟨g,0,none⟩ 5)).cell? ⟨b,1,none⟩=some (.slice (some ⟨g,0,none⟩) 0 0):=(by have:(w.drew.alloc (.view ⟨g,0,none⟩ 5)).heap[b]? = _:=(Lib.alloc_old w.drew _ b hlt).trans hbk;rw[Lib.cell_of_heap this];rfl);have c3:(w.alloc (.view ⟨g,0,none⟩ 5)).drew.cell? ⟨b,1,none⟩=some (.slice (some ⟨g,0,none⟩) 0 0):=c2;have c0:w.cell? ⟨b,1,none⟩=some (.slice (some ⟨g,0,none⟩) 0 0):=c1
 go_enter Tryz.func110,Tryz.ntmps110
 go_wp2
 go_region
 all_goals (go_wp2;go_ret;exact⟨rfl,(Below.drew (Below.refl B w)).alloc hBw _⟩)
theorem nU(B b g cap:Nat)(p:Value)(w:World)(hc0:cap≠0)(hbk:w.heap[b]? = some (.cells #[p,.slice (some ⟨g,0,none⟩) 0 cap] 154 (0,0))) :
 Calls Tryz.prog 110 #[.pointer (some ⟨b,0,none⟩)] w fun e w'=>e = .returned (.string ⟨#[]⟩)/\Below B w w':=by
 have hUS:=mg;have c1:w.drew.cell? ⟨b,1,none⟩=some (.slice (some ⟨g,0,none⟩) 0 cap):=(by have:w.drew.heap[b]? = some (.cells #[p,.slice (some ⟨g,0,none⟩) 0 cap] 154 (0,0)):=hbk;rw[Lib.cell_of_heap this];rfl);have hSD:(Builtin.unsafeSliceData_ #[108] 204 #[.slice (some ⟨g,0,none⟩) 0 cap]).run Tryz.prog w.drew = .ok (.pointer (some ⟨g,0,none⟩)) w.drew :=
  Lib.run_unsafeSliceData_row _ _ _ _ _ _ hc0
 clear hc0
 go_enter Tryz.func110,Tryz.ntmps110
 go_wp2
 go_region
 all_goals (go_wp2;go_ret;exact⟨rfl,Below.drew (Below.refl B w)⟩)
theorem pX(B b:Nat)(l:List UInt8)(w:World)(h:Lib.IsBuilder 154 5 B b (Lib.byteCells l) w)(hBw:B<=w.heap.size) :
 Calls Tryz.prog 110 #[.pointer (some ⟨b,0,none⟩)] w fun e w'=>e = .returned (.string ⟨l.toArray⟩)/\Below B w w':=by
 cases l with
 | cons x r=>exact nT B b (x :: r) w h (by simp)
 | nil =>
  obtain⟨p,hB,v,hbk,hown,hne⟩:∃p,Lib.BuilderAt 154 5 B b p [] w:=by
   rcases h with h|h
   ·exact⟨_,h⟩
   ·exact⟨_,h⟩
  rcases hown.2 with⟨rfl,_⟩|⟨g,cap,cur,rfl,hbg,hg,_,_,_,_⟩
  ·exact pW B b p w hbk
  ·by_cases hc0:cap=0
   ·subst hc0;exact kQ B b g p cur w hBw hbk hg
   ·exact nU B b g cap p w hc0 hbk
end Bg

namespace Bg
open Go.RowKit Go.Lib
theorem sizeByte:(Tryz.prog.info? 5).map (·.size)=some 1:=by kernel_rfl
set_option maxRecDepth 100000 in
theorem FD(B b:Nat)(bs:List Value)(w:World)(h:Lib.IsBuilderF 154 5 B b bs w) :
 Calls Tryz.prog 153 #[.pointer (some ⟨b,0,none⟩)] w fun e w'=>e = .returned (.tuple #[])/\(Lib.BuilderAtF 154 5 B b (.pointer (some ⟨b,0,none⟩)) bs w'/\Below B w w'):=by
 rcases h with h|h
 ·refine(eG b w h.cell0 h.shape h.frozen0).mono ?_;rintro e w' ⟨rfl,rfl⟩;exact⟨rfl,h.used _,(Below.refl B w).setCell (p:=⟨b,0,none⟩) h.1 _⟩
 ·refine(iy b w h.cell0).mono ?_;rintro e w' ⟨rfl,rfl⟩;exact⟨rfl,h,Below.refl B _⟩
set_option maxRecDepth 100000 in
theorem QY(B b:Nat)(bs:List Value)(w:World)(h:Lib.IsBuilderF 154 5 B b bs w) :
 Calls Tryz.prog 222 #[.pointer (some ⟨b,0,none⟩)] w fun e w'=>e = .returned (.int .i64 bs.length)/\w'=w:=by
 obtain⟨p,hB,v,hbk,hown,hne⟩:∃p,Lib.BuilderAtF 154 5 B b p bs w:=by
  rcases h with h|h
  ·exact⟨_,h⟩
  ·exact⟨_,h⟩
 obtain⟨ao,cap,rfl⟩:∃ao cap,v = .slice ao bs.length cap:=by
  rcases hown.2 with⟨hv,h0⟩|⟨g,cap,cur,fz,hv,_⟩
  ·exact⟨none,0,by rw[hv,h0]⟩
  ·exact⟨_,_,hv⟩
 have c1:w.cell? ⟨b,1,none⟩=some (.slice ao bs.length cap):=(by rw[Lib.cell_of_heap hbk];rfl)
 go_enter Tryz.func222,Tryz.ntmps222
 go_wp2
 go_ret;exact⟨rfl,rfl⟩
set_option maxRecDepth 100000 in
theorem qX(B b:Nat)(bs:List Value)(s:ByteArray)(w:World)(h:Lib.IsBuilderF 154 5 B b bs w)(hlen:bs.length+s.size<=140737488355328)(hBw:B<=w.heap.size) :
 Calls Tryz.prog 116 #[.pointer (some ⟨b,0,none⟩),.string s] w fun e w'=>e = .returned (.tuple #[.int .i64 s.size,.nilIface])/\(Lib.BuilderAtF 154 5 B b (.pointer (some ⟨b,0,none⟩)) (bs++Lib.strCells s) w'/\Below B w w'):=by
 obtain⟨i0,hi,hz0,hz1,hz2⟩:=info_parts infoByte
 go_enter Tryz.func116,Tryz.ntmps116
 go_wp2_with (go_at_call 153;refine(FD B b bs _ h).mono ?_)
 rintro e w1 ⟨rfl,h1,hb1⟩;obtain⟨hB,v,hbk,hown,hne⟩:=h1;have c0:w1.cell? ⟨b,0,none⟩=some (.pointer (some ⟨b,0,none⟩)):=(by rw[Lib.cell_of_heap hbk];rfl);have c1:w1.cell? ⟨b,1,none⟩=some v:=(by rw[Lib.cell_of_heap hbk];rfl)
 go_wp2_with (at_builtin;refine Lib.wpList_append_own_stringF _ rfl _ _ 108 9 rfl B 5 i0 Tryz.underlying108 Tryz.underlying9 hi hz0 hz1 hz2 _ _ _ rfl hown s rfl ?c3 ?c4 ?c5 ?_)
 case c3=>unfold maxLen;omega
 case c4=>omega
 case c5=>have:=hb1.size;omega
 intro v' w2 hown' hgrow _;have hlt:b<w1.heap.size:=by
  rcases Nat.lt_or_ge b w1.heap.size with h'|h'
  ·exact h'
  ·simp[Array.getElem?_eq_none h']at hbk
 have hb2:w2.heap[b]? = some (.cells #[.pointer (some ⟨b,0,none⟩),v] 154 (0,0)):=(by rw[hgrow.block b hlt (fun e=>hne e.symm)];exact hbk);have d0:w2.cell? ⟨b,0,none⟩=some (.pointer (some ⟨b,0,none⟩)):=(by rw[Lib.cell_of_heap hb2];rfl);have d1:w2.cell? ⟨b,1,none⟩=some v:=(by rw[Lib.cell_of_heap hb2];rfl);have f1:w2.frozen? ⟨b,1,none⟩=false:=Lib.frozen_of_heap hb2 1;obtain⟨ao,n',cap,rfl⟩:∃ao n' cap,v' = .slice ao n' cap:=by
  rcases hown'.2 with⟨hv,_⟩|⟨g,cap,cur,fz,hv,_⟩
  ·exact⟨_,_,_,hv⟩
  ·exact⟨_,_,_,hv⟩
 go_wp2
 go_ret2;refine⟨rfl,?_,?_⟩
 ·exact Lib.BuilderAtF.put (T:=154) (e:=5) hB hb2 (bs':=bs++Lib.strCells s) (by simpa[Lib.strCells_length]using hown') (by decide)
 ·exact(hb1.grown hgrow (by have:=hb1.size;omega) (fun k hk=>(hown.lt k hk).1)).setCell (p:=⟨b,1,none⟩) hB _
set_option maxRecDepth 100000 in
theorem H9(B b:Nat)(l:List UInt8)(w:World)(h:Lib.IsBuilderF 154 5 B b (Lib.byteCells l) w)(h0:l≠[]) :
 Calls Tryz.prog 110 #[.pointer (some ⟨b,0,none⟩)] w fun e w'=>e = .returned (.string ⟨l.toArray⟩)/\(Lib.IsBuilderF 154 5 B b (Lib.byteCells l) w'/\Below B w w'):=by
 obtain⟨p,hp,hAt⟩:∃p,(p = .pointer none∨p = .pointer (some ⟨b,0,none⟩))/\Lib.BuilderAtF 154 5 B b p (Lib.byteCells l) w:=by
  rcases h with h|h
  ·exact⟨_,.inl rfl,h⟩
  ·exact⟨_,.inr rfl,h⟩
 obtain⟨hB,v,hbk,hown,hne⟩:=hAt;have hl0:l.length≠0:=(by simpa using h0);rw[Lib.byteCells_length]at hown;obtain⟨g,cap,cur,fz,rfl,hbg,hg,hfz,hnc,hcm,hcs,htake⟩:∃g cap cur fz,v = .slice (some ⟨g,0,none⟩) l.length cap/\B<=g/\w.heap[g]? = some (.cells cur 5 fz)/\fz.2<=l.length*1/\l.length<=cap/\cap<=maxLen/\cur.size=cap*1/\cur.toList.take (l.length*1)=Lib.byteCells l:=by
  rcases hown.2 with⟨_,hz⟩|⟨g,cap,cur,fz,hv,r⟩
  ·exact absurd hz hl0
  ·exact⟨g,cap,cur,fz,hv,r⟩
 have c1:w.drew.cell? ⟨b,1,none⟩=some (.slice (some ⟨g,0,none⟩) l.length cap):=(by have:w.drew.heap[b]? = some (.cells #[p,.slice (some ⟨g,0,none⟩) l.length cap] 154 (0,0)):=hbk;rw[Lib.cell_of_heap this];rfl);have hSD:(Builtin.unsafeSliceData_ #[108] 204 #[.slice (some ⟨g,0,none⟩) l.length cap]).run Tryz.prog w.drew = .ok (.pointer (some ⟨g,0,none⟩)) w.drew :=
  Lib.run_unsafeSliceData_row _ _ _ _ _ _ (by omega)
 have hUS:(Builtin.unsafeString_ #[204,3] 9 #[.pointer (some ⟨g,0,none⟩),.int .i64 l.length]).run Tryz.prog w.drew = .ok (.string ⟨l.toArray⟩) (w.drew.freeze ⟨g,0,none⟩ l.length):=(by refine Lib.run_unsafeString_row w.drew 204 3 9 5 Tryz.underlying204 cellsByte g cur.size (by have hg':w.drew.heap[g]? = some (.cells cur 5 fz):=hg;simp[World.shape?,hg']) l h0 (by omega) (by unfold maxLen at hcm;omega) ?_;intro j x hx;have:=hown.cells (g:=g) rfl j (.int .u8 x.toNat) (by simp[Lib.byteCells,hx]);exact this)
 -- the builder behind the call: its bytes frozen;a builder still
 have hkeep:Lib.IsBuilderF 154 5 B b (Lib.byteCells l) (w.drew.freeze ⟨g,0,none⟩ l.length):=by
  have hA:Lib.BuilderAtF 154 5 B b p (Lib.byteCells l) w.drew:=⟨hB,_,hbk,by rw[Lib.byteCells_length];exact hown,hne⟩;have hF:=hA.froze (g:=g) (cap:=cap) (by rw[Lib.byteCells_length];exact c1);rw[Lib.byteCells_length]at hF;rcases hp with rfl|rfl
  ·exact .inl hF
  ·exact .inr hF
 go_enter Tryz.func110,Tryz.ntmps110
 go_wp2
 go_region
 all_goals (go_wp2;go_ret;exact⟨rfl,hkeep,Lib.below_freeze (Below.drew (Below.refl B w)) (p:=⟨g,0,none⟩) hbg _⟩)
set_option maxRecDepth 100000 in
theorem Jm(B b n:Nat)(w:World)(hB:B<=b)(hbk:w.heap[b]? = some (.cells #[.pointer (some ⟨b,0,none⟩),.slice none 0 0] 154 (0,0)))(hBw:B<=w.heap.size)(hn:n<=281474976710656) :
 Calls Tryz.prog 154 #[.pointer (some ⟨b,0,none⟩),.int .i64 n] w fun e w'=>e = .returned (.tuple #[])/\(Lib.BuilderAt 154 5 B b (.pointer (some ⟨b,0,none⟩)) [] w'/\Below B w w'):=by
 obtain⟨cs,hrun,hle,hmax⟩:=Lib.run_makeNoZero (P:=Tryz.prog) w.drew #[3] 108 5 Tryz.underlying108 n hn;have hw:IntKind.i64.wrap (IntKind.i64.wrap 0+(n:Int))=n:=(by rw[IntKind.wrap_i64,IntKind.wrap_i64];omega);have hcall:(callFunc 196 #[.int .i64 (IntKind.i64.wrap (IntKind.i64.wrap 0+(n:Int)))]).run Tryz.prog w.drew = .ok (.value (.slice (some ⟨w.drew.heap.size,0,none⟩) n cs.size)) (w.drew.drew.drew.alloc (.cells cs 5)):=(by rw[hw,run_callFunc_extern Tryz.func196 (by kernel_rfl) (by kernel_rfl) (by kernel_rfl) (e:=Extern.BytealgMakeNoZero.makeNoZero #[3] #[108]) (by kernel_rfl),hrun];rfl);have c1:w.drew.cell? ⟨b,1,none⟩=some (.slice none 0 0):=(by have:w.drew.heap[b]? = _:=hbk;rw[Lib.cell_of_heap this];rfl);have c2:(w.alloc (.cells cs 5)).cell? ⟨b,1,none⟩=some (.slice none 0 0):=by
  have hlt:b<w.heap.size:=by
   rcases Nat.lt_or_ge b w.heap.size with h'|h'
   ·exact h'
   ·simp[Array.getElem?_eq_none h']at hbk
  have:(w.alloc (.cells cs 5)).heap[b]? = _:=(Lib.alloc_old w _ b hlt).trans hbk;rw[Lib.cell_of_heap this];rfl
 have f2:(w.alloc (.cells cs 5)).frozen? ⟨b,1,none⟩=false:=by
  have hlt:b<w.heap.size:=by
   rcases Nat.lt_or_ge b w.heap.size with h'|h'
   ·exact h'
   ·simp[Array.getElem?_eq_none h']at hbk
  exact Lib.frozen_of_heap ((Lib.alloc_old w _ b hlt).trans hbk) 1
 have hcopy:∀W:World,(Builtin.copy_ #[108,108] 3 #[.slice (some ⟨w.heap.size,0,none⟩) 0 cs.size,.slice none 0 0]).run Tryz.prog W = .ok (goInt 0) W :=
  fun W=>run_copy_none W 108 108 3 5 _ _ 0 cs.size 0 0 Tryz.underlying108 sizeByte rfl
 clear hw
 go_enter Tryz.func154,Tryz.ntmps154
 go_wp2;have hfin:=Lib.grown_fresh (T:=154) (e:=5) (cs:=cs) hB hbk hBw (hmax (by unfold maxLen;omega)) (by decide)
 go_region
 all_goals (go_wp2;go_end0;exact⟨rfl,hfin⟩)
set_option maxRecDepth 100000 in
theorem wR(B b n:Nat)(w:World)(hB:B<=b)(hbk:w.heap[b]? = some (.cells #[.pointer none,.slice none 0 0] 154 (0,0)))(hBw:B<=w.heap.size)(hn:n<=281474976710656) :
 Calls Tryz.prog 115 #[.pointer (some ⟨b,0,none⟩),.int .i64 n] w fun e w'=>e = .returned (.tuple #[])/\(Lib.BuilderAt 154 5 B b (.pointer (some ⟨b,0,none⟩)) [] w'/\Below B w w'):=by
 have hbk1:(w.setCell ⟨b,0,none⟩ (.pointer (some ⟨b,0,none⟩))).heap[b]? = some (.cells #[.pointer (some ⟨b,0,none⟩),.slice none 0 0] 154 (0,0)):=(by simp[World.setCell,Array.getElem?_modify,hbk]);have c1:(w.setCell ⟨b,0,none⟩ (.pointer (some ⟨b,0,none⟩))).cell? ⟨b,1,none⟩=some (.slice none 0 0):=(by rw[Lib.cell_of_heap hbk1];rfl);have hb1:Below B w (w.setCell ⟨b,0,none⟩ (.pointer (some ⟨b,0,none⟩))):=(Below.refl B w).setCell (p:=⟨b,0,none⟩) hB _
 go_enter Tryz.func115,Tryz.ntmps115;have hU:Lib.BuilderAt 154 5 B b (.pointer (some ⟨b,0,none⟩)) [] (w.setCell ⟨b,0,none⟩ (.pointer (some ⟨b,0,none⟩))):=⟨hB,.slice none 0 0,hbk1,World.ownsRow_nil _ _ _ _,by simp[Value.ownBlock]⟩;have c1':(w.setCell ⟨b,0,none⟩ (.pointer (some ⟨b,0,none⟩))).drew.cell? ⟨b,1,none⟩=some (.slice none 0 0):=c1
 go_wp2_with (go_at_call 153;refine(eG b w (by rw[Lib.cell_of_heap hbk];rfl) (by simp[World.shape?,hbk]) (Lib.frozen_of_heap hbk 0)).mono ?_;rintro e w' ⟨rfl,rfl⟩)
 go_region
 all_goals go_wp2_with (go_at_call 154;refine(Jm B b n (w.setCell ⟨b,0,none⟩ (.pointer (some ⟨b,0,none⟩))).drew hB hbk1 (by simpa[World.setCell,World.drew,-World.drew_eq]using hBw) hn).mono ?_;rintro e w' ⟨rfl,h1,h2⟩)
 all_goals first
  | (go_end0;exact⟨rfl,h1,hb1.drew.trans h2⟩)
  | (go_end0;exact⟨rfl,hU.drew,hb1.drew⟩)
end Bg

namespace Join
open Go.RowKit Mem Bg
def je:List ByteArray->List UInt8
 | []=>[]
 | s :: r=>58 :: s.data.toList++je r
def joinL:List ByteArray->List UInt8
 | []=>[]
 | s :: r=>s.data.toList++je r
def iC:List ByteArray->Nat
 | []=>0
 | s :: r=>s.size+iC r
theorem Ap(a b:List ByteArray):je (a++b)=je a++je b:=by
 induction a with
 | nil=>rfl
 | cons s r ih=>simp only[List.cons_append,je,ih,List.append_assoc]
theorem nV(a b:List ByteArray):iC (a++b)=iC a+iC b:=by
 induction a with
 | nil=>simp[iC]
 | cons s r ih=>simp only[List.cons_append,iC,ih];omega
theorem qY(l:List ByteArray):(je l).length=iC l+l.length:=by
 induction l with
 | nil=>rfl
 | cons s r ih=>simp only[je,iC,List.length_append,List.length_cons,ih];rw[show s.data.toList.length=s.size from Array.length_toList];omega
theorem sV(l:List ByteArray)(k:Nat):iC (l.take k)<=iC l:=by
 have:=nV (l.take k) (l.drop k);rw[List.take_append_drop]at this;omega
theorem yS(l:List ByteArray)(k:Nat)(hk:k<l.length):iC (l.take (k+1))=iC (l.take k)+(l[k]).size:=by
 rw[List.take_succ_eq_append_getElem hk,nV];simp[iC]
set_option maxRecDepth 20000 in
theorem TY(v:Value)(l:List ByteArray)(w:World)(hr:Texts.Reads w v l)(h2:2<=l.length)(hsz:iC l+l.length<=140737488355328)(hcp:∀ao n cap,v = .slice ao n cap->n<=cap) :
 Calls Tryz.prog 69 #[v,.string ⟨#[58]⟩] w fun e w'=>e = .returned (.string ⟨(joinL l).toArray⟩)/\Below w.heap.size w w':=by
 rcases hr with⟨ao,cap,rfl,rfl⟩|⟨b,off,cap,rfl,hm,hc⟩
 ·simp at h2
 have hcp:=hcp _ _ _ rfl;have q10:¬cap=1:=(by omega);clear hcp;obtain⟨m,hm1⟩:∃m,l.length=m+1:=⟨l.length-1,by omega⟩;rw[hm1];have q1:(1:Int)<=(m:Int):=(by omega);have q2:(m:Int)<=140737488355328:=(by omega);have q3:((m+1:Nat):Int)-1=(m:Int):=(by omega);have q4:¬((m+1:Nat):Int)=0:=(by omega);have q5:¬((m+1:Nat):Int)=1:=(by omega);have Hm:=yH hm1;have Hc:=yH hc;have H2:=yH h2;have HS:=yH hsz;have q6:¬(9223372036854775807 / (m:Int)<=1):=(by have:(2:Int)<=9223372036854775807 / (m:Int):=(Int.le_ediv_iff_mul_le (by omega)).mpr (by omega);omega);have q7:((m:Int)+1==0)=false:=(by simpa using(by omega:¬(m:Int)+1=0));have q8:((m:Int)+1==1)=false:=(by simpa using(by omega:¬(m:Int)+1=1));clear hm hc hm1 h2 hsz q3 q4 q5
 go_enter Tryz.func69,Tryz.ntmps69
 go_wp2_with fail
 go_loopw [41,5] (fun i s wr=>∃k:Nat,k<=m+1/\i = .int .i64 k/\s = .int .i64 ((m+iC (l.take k):Nat):Int)/\Hid (w=wr)) (fun i _ _=>m+1-(intOf i).toNat)
 case atStart=>exact⟨0,by omega,rfl,by simp[iC],yH rfl⟩
 case round =>
  obtain⟨k,hk,rfl,rfl,hw⟩:=hrel;obtain rfl:=hw.out;clear hw;by_cases hlt:k<m+1
  ·have k0:(0:Int)<=(k:Int):=Int.natCast_nonneg _;have k1:(k:Int)<(m:Int)+1:=(by omega);have hkl:k<l.length:=(by rw[Hm.out];exact hlt);have g1:=Hc.out k hkl;have hsc:=yS l k hkl;have hst:=sV l (k+1);obtain⟨x,hx⟩:∃x,l[k]=x:=⟨_,rfl⟩;rw[hx]at g1 hsc;obtain⟨S,hS⟩:∃S,m+iC (l.take k)=S:=⟨_,rfl⟩;have hS2:m+iC (l.take (k+1))=S+x.size:=(by omega);have hb1:S+x.size<=140737488355328:=(by have:=HS.out;have:=Hm.out;omega);rw[hS];have s0:(0:Int)<=(S:Int):=Int.natCast_nonneg _;have s1:(S:Int)<=140737488355328:=(by omega);have s2:(x.size:Int)<=140737488355328:=(by omega);have s3:¬(9223372036854775807-(S:Int)<(x.size:Int)):=(by omega);have HS2:=yH hS2;clear hS2 hS hsc hst hx
   go_wp2_with fail
   go_roundw
   case rel=>exact⟨k+1,by omega,by go_num,by rw[HS2.out];go_num,by first|exact yH rfl|exact yH trivial⟩
   case measure=>simp[intOf];omega
  ·obtain⟨N,hN⟩:∃N,m+iC (l.take k)=N:=⟨_,rfl⟩;have hNb:N<=140737488355328:=(by have:=HS.out;have:=Hm.out;have:=sV l k;omega);have hNi:(N:Int)<=140737488355328:=(by omega);have k2:¬(k:Int)<(m:Int)+1:=(by omega);rw[hN];obtain⟨x0,r,hlx⟩:∃x0 r,l=x0 :: r:=by
    cases l with
    | nil=>exact absurd H2.out (by simp)
    | cons x0 r=>exact⟨x0,r,rfl⟩
   subst hlx;have g0:w.cell? ⟨b,off,none⟩=some (.string x0):=Hc.out 0 (by simp);have hbw:=World.block_lt_of_cell? w _ g0;have hrm:r.length=m:=(by have:=Hm.out;simpa using this);have zc8:x0.size<=140737488355328:=(by have:=HS.out;simp only[iC]at this;omega);have hcr:∀j (hj:j<r.length),w.cell? ⟨b,off+1+j,none⟩=some (.string r[j]):=fun j hj=>by
    have:=Hc.out (j+1) (by simp;omega);rw[show off+1+j=off+(j+1) by omega];exact this
   have Wj:=yH hrm;have HCR:=yH hcr;clear hrm hcr;clear hN
   go_wp2_with fail;refine ae fun w0 hw0=>?_
   obtain⟨b0,x0'⟩:=af hw0;clear hw0;refine(Bg.wR w.heap.size w.heap.size N w0 (Nat.le_refl _) x0' b0.size (by omega)).mono ?_;rintro e w1 ⟨rfl,h1,b1⟩;have b01:=b0.trans b1;have c0:w1.cell? ⟨b,off,none⟩=some (.string x0):=(by rw[b01.cell (p:=⟨b,off,none⟩) hbw];exact g0);clear b0 x0' b1;have H1:=yH h1;clear h1
   go_wp2_with fail;refine(Bg.writeString w.heap.size w.heap.size [] x0 w1 (Or.inr H1.out) (by simpa using zc8) b01.size).mono ?_;rintro e w2 ⟨rfl,h2',b2⟩;have b02:=b01.trans b2;have hI:Lib.IsBuilder 154 5 w.heap.size w.heap.size (Lib.byteCells (x0.data.toList++je (r.take 0))) w2:=by
    refine Or.inr ?_;rw[List.nil_append,Lib.strCells_eq]at h2'
    simpa[je]using h2'
   have HI:=yH hI;clear H1 c0 b01 b2 h2' hI;have q9:(1:Int)<=(m:Int)+1:=(by omega)
   go_wp2_with fail
   go_loopw [65] (fun i wr=>∃k:Nat,k<=m/\i = .int .i64 k/\Hid (Lib.IsBuilder 154 5 w.heap.size w.heap.size (Lib.byteCells (x0.data.toList++je (r.take k))) wr)/\Below w.heap.size w wr) (fun i _=>m-(intOf i).toNat)
   case atStart=>exact⟨0,by omega,rfl,HI,b02⟩
   case round =>
    obtain⟨k,hk,rfl,hB,hb⟩:=hrel;by_cases hlt:k<m
    ·have k0:(0:Int)<=(k:Int):=Int.natCast_nonneg _;have k1:(k:Int)<(m:Int):=(by omega);have hkr:k<r.length:=(by rw[Wj.out];exact hlt);have gr:=HCR.out k hkr;have g1:wr.cell? ⟨b,off+1+k,none⟩=some (.string r[k]):=(by rw[hb.cell (p:=⟨b,off+1+k,none⟩) hbw];exact gr);have hsc:=yS r k hkr;have hst:=sV r (k+1);have hjl:=qY (r.take k);have hjs:je (r.take (k+1))=je (r.take k)++(58 :: (r[k]).data.toList):=(by rw[List.take_succ_eq_append_getElem hkr,Ap];simp[je]);have hlk:(r.take k).length<=r.length:=(by rw[List.length_take];omega);obtain⟨x,hx⟩:∃x,r[k]=x:=⟨_,rfl⟩;rw[hx]at g1 hsc hjs;obtain⟨P,hP⟩:∃P,x0.data.toList++je (r.take k)=P:=⟨_,rfl⟩;have hPl:P.length+x.size+1<=140737488355328:=(by rw[←hP,List.length_append,hjl,show x0.data.toList.length=x0.size from Array.length_toList];have h7:=HS.out;simp only[iC,List.length_cons]at h7;omega);have hPn:x0.data.toList++je (r.take (k+1))=P ++ [58]++x.data.toList:=(by rw[hjs,←hP];simp);rw[hP]at hB;have HPN:=yH hPn;have Ws:=yH hPl;clear gr hsc hst hjl hjs hlk hx hP hPl hPn
     go_wp2_with fail;refine(Bg.writeString w.heap.size w.heap.size _ ⟨#[58]⟩ wr hB.out (by rw[Lib.byteCells_length];have:=Ws.out;simp[bsize];omega) hb.size).mono ?_;rintro e w3 ⟨rfl,h3,b3⟩;have c3:w3.cell? ⟨b,off+1+k,none⟩=some (.string x):=(by rw[b3.cell (p:=⟨b,off+1+k,none⟩) hbw];exact g1);have hI3:Lib.IsBuilder 154 5 w.heap.size w.heap.size (Lib.byteCells (P ++ [58])) w3:=by
      refine Or.inr ?_;rw[Lib.strCells_eq,←Lib.byteCells_append]at h3;exact h3
     have HI3:=yH hI3;clear h3 hI3;have b03:=hb.trans b3
     go_wp2_with fail;refine(Bg.writeString w.heap.size w.heap.size _ x w3 HI3.out (by rw[Lib.byteCells_length];have:=Ws.out;simp;omega) b03.size).mono ?_;rintro e w4 ⟨rfl,h4,b4⟩;have H4:=yH h4;clear h4
     go_wp2_with fail
     go_roundw
     case rel =>
      refine⟨k+1,by omega,by go_num,yH (Or.inr ?_),b03.trans b4⟩;have h4:=H4.out;rw[Lib.strCells_eq,←Lib.byteCells_append,←HPN.out]at h4;exact h4
     case measure=>simp[intOf];omega
    ·have hkm:k=m:=(by omega);have k2':¬(k:Int)<(m:Int):=(by omega);have hfin:x0.data.toList++je (r.take k)=joinL (x0 :: r):=(by rw[hkm,List.take_of_length_le (by rw[Wj.out];exact Nat.le_refl _)];rfl);rw[hfin]at hB;clear hfin hkm
     go_wp2_with fail;refine(Bg.pX w.heap.size w.heap.size _ wr hB.out hb.size).mono ?_;rintro e w5 ⟨rfl,b5⟩
     go_wp2_with fail
     go_ret;exact⟨rfl,hb.trans b5⟩
end Join

namespace Rep
open Go.RowKit Mem Tr lK
theorem Wu(c:Nat)(h2:2<=c)(hc:c<=7)(w:World) :
 Calls Tryz.prog 220 #[.int .u64 1,.int .u64 (c:Int)] w fun e w'=>e = .returned (.tuple #[.int .u64 0,.int .u64 (c:Int)])/\w=w':=by
 have:c=2∨c=3∨c=4∨c=5∨c=6∨c=7:=(by omega);rcases this with rfl|rfl|rfl|rfl|rfl|rfl
 all_goals
  go_enter Tryz.func220,Tryz.ntmps220
  go_wp2
  go_ret2;exact⟨rfl,rfl⟩
theorem zc9{P:Program}{w:World}(ts:Array TypeId)(t:TypeId)(x y z:Int)(m:Int)(hm:(if z<(if y<x then y else x)then z else(if y<x then y else x))=m) :
 (Builtin.min_ ts t #[.int .i64 x,.int .i64 y,.int .i64 z]).run P w = .ok (.int .i64 m) w:=by
 subst hm;simp[Builtin.min_,Builtin.min2]
set_option maxRecDepth 100000 in
theorem QZ(c:Nat)(h2:2<=c)(hc:c<=7)(w:World) :
 Calls Tryz.prog 189 #[.string ⟨#[0]⟩,.int .i64 (c:Int)] w fun e w'=>e = .returned (.string ⟨(List.replicate c (0:UInt8)).toArray⟩)/\Below w.heap.size w w':=by
 have q1:((c:Int)==0)=false:=(by simp;omega);have q2:((c:Int)==1)=false:=(by simp;omega);have q3:(0:Int)<=(c:Int):=(by omega);have q4:((c:Int)<=9223372036854775807):=(by omega);have q5:((c:Int)<=8192):=(by omega)
 go_enter Tryz.func189,Tryz.ntmps189
 go_wp2_with fail;refine(Wu c h2 hc _).mono ?_;rintro e w' ⟨rfl,rfl⟩
 go_wp2_with fail;refine ae fun w0 hw0=>?_
 obtain⟨b0,x0⟩:=af hw0;clear hw0;refine(Bg.wR w.heap.size w.heap.size c w0 (Nat.le_refl _) x0 b0.size (by omega)).mono ?_;rintro e w1 ⟨rfl,h1,b1⟩
 go_wp2_with fail;refine(Bg.qX w.heap.size w.heap.size [] ⟨#[0]⟩ w1 (Lib.IsBuilderF.of (Or.inr h1)) (by simp[bsize]) (Nat.le_trans b0.size b1.size)).mono ?_;rintro e w2 ⟨rfl,h2',bb2⟩;have b02:Below w.heap.size w w2:=b0.trans (b1.trans bb2);clear h1 b0 b1 bb2 x0;have hB1:Lib.IsBuilderF 154 5 w.heap.size w.heap.size (Lib.byteCells (List.replicate 1 0)) w2:=Or.inr h2';have HB1:=yH hB1;clear h2' hB1
 go_wp2_with fail
 go_loopg [] (c-1) (fun g wx=>∃q:Nat,1<=q/\q+g=c/\Hid (Lib.IsBuilderF 154 5 w.heap.size w.heap.size (Lib.byteCells (List.replicate q 0)) wx)/\Below w.heap.size w wx)
 case atStart=>exact⟨1,Nat.le_refl _,by omega,HB1,b02⟩
 case round =>
  obtain⟨q,hq1,hqg,hB,hbx⟩:=hrel;have hl:(Lib.byteCells (List.replicate q (0:UInt8))).length=q:=(by rw[Lib.byteCells_length,List.length_replicate]);have HL:=yH hl;have HQG:=yH hqg;have zeA:q<=c:=(by omega);clear hl hqg;have hne:(List.replicate q (0:UInt8))≠[]:=(by intro e;have:=congrArg List.length e;simp at this;omega);have Ko:=yH hne;clear hne;by_cases hqc:q<c
  ·go_wp2_with fail;refine(Bg.QY _ _ _ _ hB.out).mono ?_;rintro e w3 ⟨rfl,hw3⟩;rw[HL.out];subst hw3
   go_wp2_with fail;refine(Bg.QY _ _ _ _ hB.out).mono ?_;rintro e w3 ⟨rfl,hw3⟩;rw[HL.out];subst hw3
   go_wp2_with fail;refine(Bg.QY _ _ _ _ hB.out).mono ?_;rintro e w3 ⟨rfl,hw3⟩;rw[HL.out];subst hw3;obtain⟨m,hm⟩:∃m:Nat,(if(c:Int)<(if(q:Int)<(c:Int)-(q:Int)then(q:Int)else(c:Int)-(q:Int))then(c:Int)else(if(q:Int)<(c:Int)-(q:Int)then(q:Int)else(c:Int)-(q:Int)))=(m:Int)/\1<=m/\m<=q/\q+m<=c:=by
    refine⟨if q<c-q then q else c-q,?_,?_,?_,?_⟩
    ·(repeat' split)<;>omega
    ·split<;>omega
    ·split<;>omega
    ·split<;>omega
   obtain⟨hm,hm1,hmq,hmc⟩:=hm;have hmin:=fun ts t W=>zc9 (P:=Tryz.prog) (w:=W) ts t _ _ _ _ hm
   clear hm
   go_wp2_with fail;refine(Bg.H9 _ _ _ _ hB.out Ko.out).mono ?_;rintro e w4 ⟨rfl,h4,b4⟩;obtain⟨S,hS⟩:∃S:ByteArray,(⟨(List.replicate q (0:UInt8)).toArray⟩:ByteArray)=S:=⟨_,rfl⟩;have hSz:S.size=q:=(by rw[←hS];simp[bsize]);have hSm:m<=S.size:=(by omega);have zeB:(m:Int)<=(S.size:Int):=(by omega);have hm0:(0:Int)<=(m:Int):=(by omega);rw[hS];have HS:=yH hS;have Yk:=yH hSz;have H4:=yH h4;clear hS hSz h4 hmin
   go_wp2_with fail;refine(Bg.qX _ _ _ (S.extract 0 m) w4 H4.out (by rw[HL.out];simp[ByteArray.size_extract];omega) (Nat.le_trans hbx.size b4.size)).mono ?_;rintro e w5 ⟨rfl,h5,b5⟩;have H5:=yH h5;clear h5
   go_wp2_with fail
   go_roundg (c-(q+m))
   case measure=>have:=HQG.out;omega
   case rel =>
    refine⟨q+m,by omega,by omega,yH (Or.inr ?_),hbx.trans (b4.trans b5)⟩;have h6:=H5.out;rw[Lib.strCells_eq,←Lib.byteCells_append,Lib.extract_data,←HS.out]at h6;have e:List.replicate q (0:UInt8)++List.take (m-0) (List.drop 0 (⟨(List.replicate q (0:UInt8)).toArray⟩:ByteArray).data.toList)=List.replicate (q+m) 0:=(by simp[List.take_replicate,List.replicate_append_replicate,Nat.min_eq_left hmq]);rw[e]at h6;exact h6
  ·obtain rfl:q=c:=(by omega)
   go_wp2_with fail;refine(Bg.QY _ _ _ _ hB.out).mono ?_;rintro e w3 ⟨rfl,hw3⟩;rw[HL.out];subst hw3
   go_wp2_with fail;refine(Bg.H9 _ _ _ _ hB.out Ko.out).mono ?_;rintro e w4 ⟨rfl,h4,b4⟩
   go_wp2_with fail
   go_ret;exact⟨rfl,hbx.trans b4⟩
set_option maxRecDepth 100000 in
theorem Q3(c:Nat)(hc:c<=7)(w:World) :
 Calls Tryz.prog 189 #[.string ⟨#[0]⟩,.int .i64 (c:Int)] w fun e w'=>e = .returned (.string ⟨(List.replicate c (0:UInt8)).toArray⟩)/\Below w.heap.size w w':=by
 by_cases h2:2<=c
 ·exact QZ c h2 hc w
 ·have:c=0∨c=1:=(by omega);rcases this with rfl|rfl
  all_goals
   go_enter Tryz.func189,Tryz.ntmps189
   go_wp2
   go_ret;exact⟨rfl,Below.refl _ _⟩
def oO(n:Nat):List UInt8:=(List.range 8).map fun i=>UInt8.ofNat (n / 2 ^ (8*i) % 256)
def Ci(n k:Nat):List UInt8:=(List.range 8).map fun j=>if j<k then UInt8.ofNat (n / 2 ^ (8*j) % 256)else 0
theorem wC(n k:Nat):(Ci n k).length=8:=by simp[Ci]
theorem fC(n:Nat):(oO n).length=8:=by simp[oO]
theorem Cj(n:Nat):Ci n 0=List.replicate 8 0:=by
 refine List.ext_getElem (by simp[Ci]) (fun j h1 h2=>?_);rw[List.getElem_replicate];simp[Ci]
theorem CB(n:Nat):Ci n 8=oO n:=by
 refine List.ext_getElem (by simp[Ci,oO]) (fun j h1 h2=>?_);have:j<8:=(by simpa[Ci]using h1);simp[Ci,oO,this]
theorem GU(n k:Nat)(hk:k<8):(Ci n k).set k (UInt8.ofNat (n / 2 ^ (8*k) % 256))=Ci n (k+1):=by
 refine List.ext_getElem (by simp[Ci]) (fun j h1 h2=>?_);rw[List.getElem_set];simp only[Ci,List.getElem_map,List.getElem_range];by_cases h:k=j
 ·subst h;rw[if_pos rfl,if_pos (by omega)]
 ·rw[if_neg h];by_cases h3:j<k
  ·rw[if_pos h3,if_pos (by omega)]
  ·rw[if_neg h3,if_neg (by omega)]
theorem Va(n:Nat)(w:World)(hn:n<18446744073709551616) :
 Calls Tryz.prog 188 #[.int .u64 (n:Int)] w fun e w'=>e = .returned (.string ⟨(oO n).toArray⟩)/\Below w.heap.size w w':=by
 have e0:(0:Int)<=(n:Int):=(by omega);have HN:=yH hn;clear hn
 go_enter Tryz.func188,Tryz.ntmps188
 go_wp2_with fail
 go_loopw [5,4] (fun i _ wr=>∃k:Nat,k<=8/\i = .int .i64 k/\Bx wr w.heap.size (Lib.byteCells (Ci n k)).toArray 273/\Below w.heap.size w wr) (fun i _ _=>8-(intOf i).toNat)
 case atStart=>exact⟨0,by omega,rfl,by rw[Cj];exact Bx.new _ _ _,(Below.refl _ _).alloc (Nat.le_refl _) _⟩
 case round =>
  obtain⟨k,hk,rfl,hbx,hb⟩:=hrel;by_cases hlt:k<8
  ·have k0:(0:Int)<=(k:Int):=Int.natCast_nonneg _;have k1:(k:Int)<8:=(by omega);obtain⟨F,hF⟩:∃F,Ci n k=F:=⟨_,rfl⟩;have J5:F.length=8:=(by rw[←hF,wC]);rw[hF]at hbx;obtain⟨z,p0⟩:∃z:Int,wr.cell? ⟨w.heap.size,k,none⟩=some (.int .u8 z):=⟨((F[k]'(by omega)).toNat:Int),by rw[hbx.cell];simp[Lib.byteCells,J5,hlt]⟩;have f0:=hbx.frozen k;have HF:=yH hF;clear hF J5
   go_wp2_with fail
   go_roundw
   case rel =>
    refine⟨k+1,by omega,by go_num,?_,hb.setCell (p:=⟨w.heap.size,k,none⟩) (Nat.le_refl _) _⟩;have y0:((n:Int) / 2 ^ (8*k) % 256)=((UInt8.ofNat (n / 2 ^ (8*k) % 256)).toNat:Int):=(by rw[UInt8.toNat_ofNat_of_lt' (by show _<256;omega)];simp);have hq:=hbx.set k (.int .u8 ((UInt8.ofNat (n / 2 ^ (8*k) % 256)).toNat:Int));rw[List.setIfInBounds_toArray,Lb.dM,←HF.out,GU n k hlt,←y0]at hq;exact hq
   case measure=>simp[intOf];omega
  ·obtain rfl:k=8:=(by omega);have hcv:=run_convert_bytes_arg (P:=Tryz.prog) wr 108 5 Tryz.underlying108 Tryz.underlying5 w.heap.size 0 8 8 ((oO n).map fun b=>(b.toNat:Int)) (by simp[oO]) (fun i hi=>by
    rw[Nat.zero_add,hbx.cell,CB];have:i<(oO n).length:=(by rw[fC];exact hi);simp[Lib.byteCells,this,List.getD]) 9 Tryz.underlying9
   rw[Lb.strOfNums_bytes]at hcv
   go_wp2
   go_ret;exact⟨rfl,hb⟩
end Rep

namespace MH
open Go.RowKit
theorem Dc:(Tryz.prog.info? 154).map (·.size)=some 2:=by kernel_rfl
theorem NF:liesAt Tryz.prog Tryz.prog.depth 156 (2 / Tryz.prog.cellsOf 156) 0 154 1=true:=by kernel_rfl
theorem infoByte:(Tryz.prog.info? 5).map (fun i=>(i.zero,i.size,i.bytes))=some (some (.int .u8 0),1,1):=by kernel_rfl
theorem cellsByte:Tryz.prog.cellsOf 5=1:=by kernel_rfl
theorem uB:Tryz.prog.underlying 152=some (.pointer 154):=Tryz.underlying152
theorem uU:Tryz.prog.underlying 254=some .unsafePointer:=Tryz.underlying254
theorem uS:Tryz.prog.underlying 108=some (.slice 5):=Tryz.underlying108
theorem uT:Tryz.prog.underlying 9=some .string:=Tryz.underlying9
theorem uP:Tryz.prog.underlying 204=some (.pointer 5):=Tryz.underlying204
/-- zda that are no row of bytes, but for b, are as they were. -/
def KT(b:Nat)(w w':World):Prop:=∀k o,w.heap[k]? = some o->k≠b->(∀c fr,o≠.cells c 5 fr)->w'.heap[k]? = some o
theorem KT.refl(b:Nat)(w:World):KT b w w:=fun _ _ h _ _=>h
theorem KT.trans{b:Nat}{x y z:World}(h:KT b x y)(k:KT b y z):KT b x z:=fun i o hi hn ht=>k i o (h i o hi hn ht) hn ht
theorem KT.of_below{b:Nat}{x y:World}(h:Below x.heap.size x y):KT b x y:=fun i o hi _ _=>by
 rw[h.block i (Array.getElem?_eq_some_iff.1 hi).1];exact hi
theorem KT.set(b:Nat)(w:World)(j:Nat)(u:Value):KT b w (w.setCell ⟨b,j,none⟩ u):=fun i o hi hn _=>by
 rw[Below.heap_setCell w ⟨b,j,none⟩ u i hn];exact hi
theorem KT.grown{b B:Nat}{w w':World}{v:Value}{n:Nat}{xs:List Value}(hown:w.ownsRow B 5 1 v n xs)(hg:w.grownBy w' v.ownBlock):KT b w w':=fun i o hi _ ht=>by
 rw[hg.block i (Array.getElem?_eq_some_iff.1 hi).1 (fun e=>?_)]
 ·exact hi
 ·rcases hown.2 with⟨rfl,_⟩|⟨g,cap,cur,rfl,_,hgb,_⟩
  ·simp[Value.ownBlock]at e
  ·obtain rfl:i=g:=(by simpa[Value.ownBlock]using e);rw[hgb]at hi;exact ht cur (0,0) (Option.some.inj hi).symm
theorem sU(v:Value)(w:World):(callFunc 195 #[v]).run Tryz.prog w = .ok (.value v) w:=by
 rw[run_callFunc_extern (e:=Extern.AbiNoEscape.same) Tryz.func195 (by kernel_rfl) (by kernel_rfl) (by kernel_rfl) (by kernel_rfl)];rfl
theorem iy(b:Nat)(w:World)(h0:w.cell? ⟨b,0,none⟩=some (.pointer (some ⟨b,0,none⟩))) :
 Calls Tryz.prog 153 #[.pointer (some ⟨b,0,none⟩)] w fun e w'=>e = .returned (.tuple #[])/\w=w':=by
 obtain⟨j,hj,_⟩:=Option.map_eq_some_iff.1 Dc;have hne:=fun w=>Lib.run_neq_ptr_same (P:=Tryz.prog) w ⟨b,0,none⟩ uB hj
 clear hj
 go_enter Tryz.func153,Tryz.ntmps153
 go_wp2
 go_end0;exact⟨rfl,rfl⟩
theorem eG(b:Nat)(w:World)(h0:w.cell? ⟨b,0,none⟩=some (.pointer none))(hsh:w.shape? b=some (156,2))(hfz:w.frozen? ⟨b,0,none⟩=false) :
 Calls Tryz.prog 153 #[.pointer (some ⟨b,0,none⟩)] w fun e w'=>e = .returned (.tuple #[])/\w.setCell ⟨b,0,none⟩ (.pointer (some ⟨b,0,none⟩))=w':=by
 obtain⟨j,hj,hjs⟩:=Option.map_eq_some_iff.1 Dc;have hto:=Lib.run_to_unsafe (P:=Tryz.prog) w ⟨b,0,none⟩ uB uU hj (by rw[hjs];decide) hsh (Nat.zero_lt_succ 1);have za2:=Lib.run_from_unsafe (P:=Tryz.prog) w ⟨b,0,none⟩ uU uB hj hsh NF;have zc7:=sU;have hne:=fun w=>Lib.run_neq_ptr_same (P:=Tryz.prog) w ⟨b,0,none⟩ uB hj
 clear hj hjs hsh
 go_enter Tryz.func153,Tryz.ntmps153
 go_wp2
 go_end0;exact⟨rfl,rfl⟩
theorem copyCheck(B b:Nat)(bs:List Value)(w:World)(h:Lib.IsBuilder 156 5 B b bs w) :
 Calls Tryz.prog 153 #[.pointer (some ⟨b,0,none⟩)] w fun e w'=>e = .returned (.tuple #[])/\(Lib.BuilderAt 156 5 B b (.pointer (some ⟨b,0,none⟩)) bs w'/\Below B w w'/\KT b w w'):=by
 rcases h with h|h
 ·refine(eG b w h.cell0 h.shape h.frozen0).mono ?_;rintro e w' ⟨rfl,rfl⟩;exact⟨rfl,h.used _,(Below.refl B w).setCell (p:=⟨b,0,none⟩) h.1 _,KT.set b w 0 _⟩
 ·refine(iy b w h.cell0).mono ?_;rintro e w' ⟨rfl,rfl⟩;exact⟨rfl,h,Below.refl B _,KT.refl _ _⟩
theorem writeString(B b:Nat)(bs:List Value)(s:ByteArray)(w:World)(h:Lib.IsBuilder 156 5 B b bs w)(hlen:bs.length+s.size<=140737488355328)(hBw:B<=w.heap.size) :
 Calls Tryz.prog 116 #[.pointer (some ⟨b,0,none⟩),.string s] w fun e w'=>e = .returned (.tuple #[.int .i64 s.size,.nilIface])/\(Lib.BuilderAt 156 5 B b (.pointer (some ⟨b,0,none⟩)) (bs++Lib.strCells s) w'/\Below B w w'/\KT b w w'):=by
 obtain⟨i0,hi,hz0,hz1,hz2⟩:=info_parts infoByte
 go_enter Tryz.func116,Tryz.ntmps116
 go_wp2_with fail;refine(copyCheck B b bs _ h).mono ?_;rintro e w1 ⟨rfl,h1,hb1,hk1⟩;obtain⟨hB,v,hbk,hown,hne⟩:=h1;have c0:w1.cell? ⟨b,0,none⟩=some (.pointer (some ⟨b,0,none⟩)):=(by rw[Lib.cell_of_heap hbk];rfl);have c1:w1.cell? ⟨b,1,none⟩=some v:=(by rw[Lib.cell_of_heap hbk];rfl)
 go_wp2_with (at_builtin;refine Lib.wpList_append_own_string _ rfl _ _ 108 9 rfl B 5 i0 uS uT hi hz0 hz1 hz2 _ _ _ rfl hown s rfl ?c3 ?c4 ?c5 ?_)
 case c3=>unfold maxLen;omega
 case c4=>omega
 case c5=>have:=hb1.size;omega
 intro v' w2 hown' hgrow _;have hlt:b<w1.heap.size:=by
  rcases Nat.lt_or_ge b w1.heap.size with h'|h'
  ·exact h'
  ·simp[Array.getElem?_eq_none h']at hbk
 have hb2:w2.heap[b]? = some (.cells #[.pointer (some ⟨b,0,none⟩),v] 156 (0,0)):=(by rw[hgrow.block b hlt (fun e=>hne e.symm)];exact hbk);have d0:w2.cell? ⟨b,0,none⟩=some (.pointer (some ⟨b,0,none⟩)):=(by rw[Lib.cell_of_heap hb2];rfl);have d1:w2.cell? ⟨b,1,none⟩=some v:=(by rw[Lib.cell_of_heap hb2];rfl);have f1:w2.frozen? ⟨b,1,none⟩=false:=Lib.frozen_of_heap hb2 1;obtain⟨ao,n',cap,rfl⟩:∃ao n' cap,v' = .slice ao n' cap:=by
  rcases hown'.2 with⟨hv,_⟩|⟨g,cap,cur,hv,_⟩
  ·exact⟨_,_,_,hv⟩
  ·exact⟨_,_,_,hv⟩
 go_wp2
 go_ret2;refine⟨rfl,?_,?_,(hk1.trans (KT.grown hown hgrow)).trans (KT.set b w2 1 _)⟩
 ·exact Lib.BuilderAt.put (T:=156) (e:=5) hB hb2 (bs':=bs++Lib.strCells s) (by simpa[Lib.strCells_length]using hown') (by decide)
 ·exact(hb1.grown hgrow (by have:=hb1.size;omega) (fun k hk=>(hown.lt k hk).1)).setCell (p:=⟨b,1,none⟩) hB _
theorem nT(B b:Nat)(l:List UInt8)(w:World)(h:Lib.IsBuilder 156 5 B b (Lib.byteCells l) w)(h0:l≠[]) :
 Calls Tryz.prog 110 #[.pointer (some ⟨b,0,none⟩)] w fun e w'=>e = .returned (.string ⟨l.toArray⟩)/\Below B w w':=by
 obtain⟨p,hB,v,hbk,hown,hne⟩:∃p,Lib.BuilderAt 156 5 B b p (Lib.byteCells l) w:=by
  rcases h with h|h
  ·exact⟨_,h⟩
  ·exact⟨_,h⟩
 have hl0:l.length≠0:=(by simpa using h0);rw[Lib.byteCells_length]at hown;obtain⟨g,cap,cur,rfl,hbg,hg,hnc,hcm,hcs,htake⟩:∃g cap cur,v = .slice (some ⟨g,0,none⟩) l.length cap/\B<=g/\w.heap[g]? = some (.cells cur 5 (0,0))/\l.length<=cap/\cap<=maxLen/\cur.size=cap*1/\cur.toList.take (l.length*1)=Lib.byteCells l:=by
  rcases hown.2 with⟨_,hz⟩|⟨g,cap,cur,hv,r⟩
  ·exact absurd hz hl0
  ·exact⟨g,cap,cur,hv,r⟩
 have c1:w.drew.cell? ⟨b,1,none⟩=some (.slice (some ⟨g,0,none⟩) l.length cap):=(by have:w.drew.heap[b]? = some (.cells #[p,.slice (some ⟨g,0,none⟩) l.length cap] 156 (0,0)):=hbk;rw[Lib.cell_of_heap this];rfl);have hSD:(Builtin.unsafeSliceData_ #[108] 204 #[.slice (some ⟨g,0,none⟩) l.length cap]).run Tryz.prog w.drew = .ok (.pointer (some ⟨g,0,none⟩)) w.drew :=
  Lib.run_unsafeSliceData_row _ _ _ _ _ _ (by omega)
 have hUS:(Builtin.unsafeString_ #[204,3] 9 #[.pointer (some ⟨g,0,none⟩),.int .i64 l.length]).run Tryz.prog w.drew = .ok (.string ⟨l.toArray⟩) (w.drew.freeze ⟨g,0,none⟩ l.length):=(by refine Lib.run_unsafeString_row w.drew 204 3 9 5 uP cellsByte g cur.size (by have hg':w.drew.heap[g]? = some (.cells cur 5 (0,0)):=hg;simp[World.shape?,hg']) l h0 (by omega) (by unfold maxLen at hcm;omega) ?_;intro j x hx;have:=hown.cells (g:=g) rfl j (.int .u8 x.toNat) (by simp[Lib.byteCells,hx]);exact this)
 go_enter Tryz.func110,Tryz.ntmps110
 go_wp2
 go_region
 all_goals (go_wp2;go_ret;exact⟨rfl,Lib.below_freeze (Below.drew (Below.refl B w)) (p:=⟨g,0,none⟩) hbg _⟩)
theorem mg(W:World)(q:Option Addr):(Builtin.unsafeString_ #[204,3] 9 #[.pointer q,.int .i64 0]).run Tryz.prog W = .ok (.string .empty) W :=
 Lib.run_unsafeString_none W _ _ _ q
theorem pW(B b:Nat)(p:Value)(w:World)(hbk:w.heap[b]? = some (.cells #[p,.slice none 0 0] 156 (0,0))) :
 Calls Tryz.prog 110 #[.pointer (some ⟨b,0,none⟩)] w fun e w'=>e = .returned (.string ⟨#[]⟩)/\Below B w w':=by
 have hUS:=mg;have c1:w.drew.cell? ⟨b,1,none⟩=some (.slice none 0 0):=(by have:w.drew.heap[b]? = some (.cells #[p,.slice none 0 0] 156 (0,0)):=hbk;rw[Lib.cell_of_heap this];rfl);have hSD:(Builtin.unsafeSliceData_ #[108] 204 #[.slice none 0 0]).run Tryz.prog w.drew = .ok (.pointer none) w.drew:=rfl
 go_enter Tryz.func110,Tryz.ntmps110
 go_wp2
 go_region
 all_goals (go_wp2;go_ret;exact⟨rfl,Below.drew (Below.refl B w)⟩)
theorem kQ(B b g:Nat)(p:Value)(cur:Array Value)(w:World)(hBw:B<=w.heap.size)(hbk:w.heap[b]? = some (.cells #[p,.slice (some ⟨g,0,none⟩) 0 0] 156 (0,0)))(hg:w.heap[g]? = some (.cells cur 5 (0,0))) :
 Calls Tryz.prog 110 #[.pointer (some ⟨b,0,none⟩)] w fun e w'=>e = .returned (.string ⟨#[]⟩)/\Below B w w':=by
 have hUS:=mg;have hlt:b<w.heap.size:=by
  rcases Nat.lt_or_ge b w.heap.size with h'|h'
  ·exact h'
  ·simp[Array.getElem?_eq_none h']at hbk
 have c1:w.drew.cell? ⟨b,1,none⟩=some (.slice (some ⟨g,0,none⟩) 0 0):=(by have:w.drew.heap[b]? = some (.cells #[p,.slice (some ⟨g,0,none⟩) 0 0] 156 (0,0)):=hbk;rw[Lib.cell_of_heap this];rfl);have hSD:(Builtin.unsafeSliceData_ #[108] 204 #[.slice (some ⟨g,0,none⟩) 0 0]).run Tryz.prog w.drew = .ok (.pointer (some ⟨w.drew.heap.size,0,none⟩)) (w.drew.alloc (.view ⟨g,0,none⟩ 5)) :=
  Lib.run_unsafeSliceData_zero w.drew _ _ 5 uP ⟨g,0,none⟩ 0 (5,cur.size) (by have hg':w.drew.heap[g]? = some (.cells cur 5 (0,0)):=hg;simp[World.shape?,hg'])
 have c2:(w.drew.alloc (.view ⟨g,0,none⟩ 5)).cell? ⟨b,1,none⟩=some (.slice (some ⟨g,0,none⟩) 0 0):=(by have:(w.drew.alloc (.view ⟨g,0,none⟩ 5)).heap[b]? = _:=(Lib.alloc_old w.drew _ b hlt).trans hbk;rw[Lib.cell_of_heap this];rfl);have c3:(w.alloc (.view ⟨g,0,none⟩ 5)).drew.cell? ⟨b,1,none⟩=some (.slice (some ⟨g,0,none⟩) 0 0):=c2;have c0:w.cell? ⟨b,1,none⟩=some (.slice (some ⟨g,0,none⟩) 0 0):=c1
 go_enter Tryz.func110,Tryz.ntmps110
 go_wp2
 go_region
 all_goals (go_wp2;go_ret;exact⟨rfl,(Below.drew (Below.refl B w)).alloc hBw _⟩)
theorem nU(B b g cap:Nat)(p:Value)(w:World)(hc0:cap≠0)(hbk:w.heap[b]? = some (.cells #[p,.slice (some ⟨g,0,none⟩) 0 cap] 156 (0,0))) :
 Calls Tryz.prog 110 #[.pointer (some ⟨b,0,none⟩)] w fun e w'=>e = .returned (.string ⟨#[]⟩)/\Below B w w':=by
 have hUS:=mg;have c1:w.drew.cell? ⟨b,1,none⟩=some (.slice (some ⟨g,0,none⟩) 0 cap):=(by have:w.drew.heap[b]? = some (.cells #[p,.slice (some ⟨g,0,none⟩) 0 cap] 156 (0,0)):=hbk;rw[Lib.cell_of_heap this];rfl);have hSD:(Builtin.unsafeSliceData_ #[108] 204 #[.slice (some ⟨g,0,none⟩) 0 cap]).run Tryz.prog w.drew = .ok (.pointer (some ⟨g,0,none⟩)) w.drew :=
  Lib.run_unsafeSliceData_row _ _ _ _ _ _ hc0
 clear hc0
 go_enter Tryz.func110,Tryz.ntmps110
 go_wp2
 go_region
 all_goals (go_wp2;go_ret;exact⟨rfl,Below.drew (Below.refl B w)⟩)
theorem pX(B b:Nat)(l:List UInt8)(w:World)(h:Lib.IsBuilder 156 5 B b (Lib.byteCells l) w)(hBw:B<=w.heap.size) :
 Calls Tryz.prog 110 #[.pointer (some ⟨b,0,none⟩)] w fun e w'=>e = .returned (.string ⟨l.toArray⟩)/\Below B w w':=by
 cases l with
 | cons x r=>exact nT B b (x :: r) w h (by simp)
 | nil =>
  obtain⟨p,hB,v,hbk,hown,hne⟩:∃p,Lib.BuilderAt 156 5 B b p [] w:=by
   rcases h with h|h
   ·exact⟨_,h⟩
   ·exact⟨_,h⟩
  rcases hown.2 with⟨rfl,_⟩|⟨g,cap,cur,rfl,hbg,hg,_,_,_,_⟩
  ·exact pW B b p w hbk
  ·by_cases hc0:cap=0
   ·subst hc0;exact kQ B b g p cur w hBw hbk hg
   ·exact nU B b g cap p w hc0 hbk
end MH
end Go.Proofs.YtmmmghpimdfleaaGreatDoor
