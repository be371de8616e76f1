/-
  strings.IndexAny, ContainsAny at "/" and byte 0 over any bytes (the set's road: the kit's worked walks, turned to this program by tools/zd6.py).
  wire.U2, wire.Int; tree.dQ.
  tree.Target, fields, below, U3.add.
  name.Check.
-/
import Derived.Test.YtmmmghpimdfleaaGreatDoorTk
import Derived.Test.YtmmmghpimdfleaaGreatDoorGrpB
import Derived.Deep.MidRow
import Derived.Lib.AsciiSet
import Derived.Deep.WholeRow
import Derived.Deep.LoopGhost
import Derived.Laws.ResultCell
import Derived.Lib.IndexBytes
import Derived.BigQuiet
import Derived.WalkMore
import Derived.Lib.TrimU
import Derived.Test.YtmmmghpimdfleaaGreatDoorProg
import Derived.Test.YtmmmghpimdfleaaGreatDoorGrpA
import Derived.WalkKit
import Derived.WalkLawsBesides
import Derived.WalkSpells
import Derived.Deep.QuietTactic
import Derived.Lib.Hide
import Derived.KernelRfl
set_option linter.unusedVariables false
set_option maxHeartbeats 4000000
set_option linter.unusedSimpArgs false
namespace Go.Proofs.YtmmmghpimdfleaaGreatDoor
namespace Any
open Go.RowKit Mem
theorem jg{B:Nat}{a:World}{b:Nat}(hb:B<=b):∀(vs:List Value) (o:Nat) {w:World},Below B a w->Below B a (w.setCells b o vs)
 | [],_,_,h=>h
 | v :: r,o,_,h=>jg hb r (o+1) (h.setCell (p:=⟨b,o,none⟩) hb v)
theorem aX{w2 W:World}{Z:Array Value}{T:TypeId}{cs:List Value}(hW:(w2.alloc (.cells Z T)).setCells w2.heap.size 0 cs=W):Below w2.heap.size w2 W:=by
 rw[←hW];exact jg (Nat.le_refl _) _ _ ((Below.refl _ w2).alloc (Nat.le_refl _) _)
theorem aZ{w2 W:World}{Z:Array Value}{T:TypeId}{cs:List Value}(hW:(w2.alloc (.cells Z T)).setCells w2.heap.size 0 cs=W)(hz:Z.size=cs.length):W.rangeAt w2.heap.size 0 cs:=by
 rw[←hW];exact World.rangeAt_setCells_same _ _ _ _ ((Bx.new w2 Z T).there _ hz)
theorem strings_shouldUseASCIISet(n:Int)(w:World) :
 Calls Tryz.prog 241 #[.int .i64 n] w fun e w'=>e = .returned (.bool (decide (8<n)))/\w'=w:=by
 go_enter Tryz.func241,Tryz.ntmps241
 go_wp2
 go_ret;exact⟨rfl,rfl⟩
set_option maxRecDepth 1000000 in
theorem strings_makeASCIISet(hv116:∀w,(zeroValue 290).run Tryz.prog w = .ok (.agg (Array.replicate 256 (.bool false))) w)(hi116:(Tryz.prog.info? 290).map (·.size)=some 256)(chars:ByteArray)(w:World)(hs:chars.size<4294967281)
 (hascii:∀(j:Nat) b,chars.data.toList[j]? = some b->b.toNat<128) :
 Calls Tryz.prog 242 #[.string chars] w fun e w'=>e = .returned (.tuple #[.agg (Lib.setCells chars.data.toList),.bool true])/\Below w.heap.size w w':=by
 have HA:Aside (∀(j:Nat) b,chars.data.toList[j]? = some b->b.toNat<128):=hascii;clear hascii
 go_enter Tryz.func242,Tryz.ntmps242
 go_wp2;rw[←Lib.setCells_nil]
 go_loopg [4] chars.size (fun g s4 wx=>∃i:Nat,i+g=chars.size/\s4 = .int .i64 i/\wx=w.alloc (.cells (Lib.setCells (chars.data.toList.take i)) 290))
 case atStart=>exact⟨0,by omega,rfl,rfl⟩
 case round =>
  obtain⟨i,hig,rfl,rfl⟩:=hrel;cases gk with
  | zero =>
   obtain rfl:i=chars.size:=(by omega);have hiz:¬((chars.size:Int)<(chars.size:Int)):=(by omega);rw[show chars.data.toList.take chars.size=chars.data.toList from List.take_of_length_le (by rw[←Lib.size_eq];exact Nat.le_refl _)];obtain⟨Z,hZ⟩:∃Z,Lib.setCells chars.data.toList=Z:=⟨_,rfl⟩;have hsz:Z.size=256:=(by rw[←hZ];exact Lib.setCells_size chars.data.toList);have hoc:Z.all (·.oneCell')=true:=(by rw[←hZ];exact Lib.setCells_one _);have HZ:=yH hZ;rw[hZ];clear hZ;have hrg:=(Bx.new w Z 290).range;have hl:Z.toList.length=256:=(by simpa using hsz);have hno:∀v∈Z.toList,v.oneCell'=true:=fun v hv=>by
    have:=Array.all_eq_true_iff_forall_mem.1 hoc v (by simpa using hv);exact this
   have Tm:=yH hno;have HOC:=yH hoc;clear hno hoc
   go_wp2_with (first
    | (refine wpList_load_mid rfl 290 _ (by rfl) w.heap.size 0 (by rfl) Z.toList _ hrg Tryz.underlying290 rfl (by rw[hl];exact hi116) ?_)
    | (refine wpList_store_mid (by rfl) 290 _ _ (by rfl) w.heap.size 0 Z.toList.toArray (by rfl) (by rfl) ?h4 ?h5 ?h6 ?_;rotate_right;refine Mem.named ?_;intro W hW))
   case h4=>exact(Bx.new w Z 290).there 256 hsz
   case h6=>have:=HOC.out;rw[←hsz];exact this
   have hW2:(w.alloc (.cells Z 290)).setCells w.heap.size 0 Z.toList=W:=hW;have hlv:(loadVar 290 ⟨w.heap.size,0,none⟩).run Tryz.prog W = .ok (.agg Z.toList.toArray) W:=(by rw[←hW2];exact run_loadVar_mid _ w.heap.size 0 _ Z.toList _ (World.rangeAt_setCells_same _ _ _ _ ((Bx.new w Z 290).there _ (by rw[hl,hsz]))) Tryz.underlying290 rfl (by rw[hl];exact hi116));refine bodyPost_ret (v:=.tuple #[.agg Z.toList.toArray,.bool true]) (bT Tryz.results242 rfl hlv rfl) rfl ⟨by rw[HZ.out],?_⟩;exact aX hW2
  | succ g =>
   have hi:i<chars.size:=(by omega);have hiz:(i:Int)<(chars.size:Int):=(by omega);obtain⟨x,hx⟩:∃x:UInt8,chars[i]'hi=x:=⟨_,rfl⟩;have hxl:chars.data.toList[i]? = some x:=(by rw[←hx];exact Lib.data_getElem? chars i hi);have hx128:¬((128:Int)<=(x.toNat:Int)):=(by have:=HA.out i x hxl;omega);have hx256:(x.toNat:Int)<256:=(by have:=HA.out i x hxl;omega);have hcell:=Lib.setCells_at (chars.data.toList.take i) x;have Hx:Aside (chars.data.toList[i]? = some x):=hxl;clear hxl
   go_wp2
   go_roundg g
   case measure=>omega
   case rel=>exact⟨i+1,by omega,by first|rfl|simp,by rw[List.take_add_one,Hx.out];simp only[Option.toList];rw[Lib.setCells_snoc]⟩
set_option maxRecDepth 1000000 in
theorem asciiSet_contains(b:Nat)(x:UInt8)(v:Bool)(w:World)(hc:w.cell? ⟨b,x.toNat,none⟩=some (.bool v)) :
 Calls Tryz.prog 243 #[.pointer (some ⟨b,0,none⟩),.int .u8 x.toNat] w fun e w'=>e = .returned (.bool v)/\w'=w:=by
 have hx256:(x.toNat:Int)<256:=(by have:=UInt8.toNat_lt x;omega)
 go_enter Tryz.func243,Tryz.ntmps243
 go_wp2
 go_ret;exact⟨rfl,rfl⟩
theorem Lj(s:ByteArray)(pos:Nat)(h:pos<s.size)(ha:128<=(s[pos]'h).toNat) :
 128<=(Utf8.decode s pos).1/\(Utf8.decode s pos).1<=1114111/\1<=(Utf8.decode s pos).2/\∀j (hj:j<s.size),pos<=j->j<pos+(Utf8.decode s pos).2->128<=(s[j]'hj).toNat:=by
 have h1:=decode_high s pos h ha;refine⟨h1.1,Go.Lib.rune_le s pos,h1.2,fun j hj hpj yz=>?_⟩;by_cases e:j=pos
 ·subst e;exact ha
 ·have key:∀k,1<=k->(pos+k<s.size/\(s.get! (pos+k)).toNat / 64=2)->∀hk:pos+k<s.size,128<=(s[pos+k]'hk).toNat:=by
   intro k _ hk hk2;have e1:s.get! (pos+k)=s[pos+k]'hk2:=by
    show s.data[pos+k]! = _;exact getElem!_pos s.data (pos+k) hk2
   rw[e1]at hk;omega
  have hk:j=pos+(j-pos):=(by omega);have hk1:1<=j-pos:=(by omega);have goal:pos+(j-pos)<s.size/\(s.get! (pos+(j-pos))).toNat / 64=2:=by
   revert yz;unfold Utf8.decode;simp only;split
   ·intro yz;simp at yz;omega
   ·split
    ·next hc =>
     split
     ·intro yz;simp at yz hc;obtain rfl:j=pos+1:=(by omega);rw[show pos+(pos+1-pos)=pos+1 by omega];exact⟨hc.2.1,hc.2.2⟩
     ·intro yz;simp at yz;omega
    ·split
     ·next hc =>
      split
      ·intro yz;simp at yz hc;have:j-pos=1∨j-pos=2:=(by omega);rcases this with e2|e2<;>rw[e2]
       ·exact hc.1.2
       ·exact hc.2
      ·intro yz;simp at yz;omega
     ·split
      ·next hc =>
       split
       ·intro yz;simp at yz hc;have:j-pos=1∨j-pos=2∨j-pos=3:=(by omega);rcases this with e2|e2|e2<;>rw[e2]
        ·exact hc.1.1.2
        ·exact hc.1.2
        ·exact hc.2
       ·intro yz;simp at yz;omega
      ·intro yz;simp at yz;omega
  have:=key (j-pos) hk1 goal (by omega);have e2:s[pos+(j-pos)]'(by omega)=s[j]'hj:=(by congr 1;omega);rw[e2]at this;exact this
theorem U4(r:Int)(h0:128<=r):(∃c0 c1:UInt8,Utf8.encode r=⟨#[c0,c1]⟩/\128<=c1.toNat)∨(∃c0 c1 c2:UInt8,Utf8.encode r=⟨#[c0,c1,c2]⟩)∨∃c0 c1 c2 c3:UInt8,Utf8.encode r=⟨#[c0,c1,c2,c3]⟩:=by
 obtain⟨c,hc⟩:∃c,(if Utf8.valid r=true then r.toNat else Utf8.runeError)=c:=⟨_,rfl⟩;have hc1:128<=c:=by
  rw[←hc];split
  ·omega
  ·decide
 unfold Utf8.encode;simp only[hc];rw[if_neg (by omega)];split
 ·refine .inl ⟨_,_,rfl,?_⟩;rw[UInt8.toNat_ofNat'];omega
 ·split
  ·exact .inr (.inl ⟨_,_,_,rfl⟩)
  ·exact .inr (.inr ⟨_,_,_,_,rfl⟩)
def Zo(w:World)(e:Ending)(w':World):Prop:=(∃b,e = .returned (.bool b))/\w'=w
def two:ByteArray:=⟨#[47,0]⟩
theorem vX(r:Int)(w:World)(h0:0<=r)(h1:r<=1114111):Calls Tryz.prog 192 #[.int .i32 r] w (Zo w):=by
 by_cases a1:r<55296
 ·go_enter Tryz.func192,Tryz.ntmps192
  go_wp2_with fail
  go_ret;exact⟨⟨_,rfl⟩,rfl⟩
 ·have b1:decide (r<55296)=false:=decide_eq_false a1;by_cases a2:57343<r
  ·go_enter Tryz.func192,Tryz.ntmps192
   go_wp2_with fail
   go_ret;exact⟨⟨_,rfl⟩,rfl⟩
  ·have b2:decide (57343<r)=false:=decide_eq_false a2
   go_enter Tryz.func192,Tryz.ntmps192
   go_wp2_with fail
   go_ret;exact⟨⟨_,rfl⟩,rfl⟩
set_option maxRecDepth 20000 in
theorem zcb(r:Int)(w:World)(h0:128<=r)(h1:r<=1114111):Calls Tryz.prog 152 #[.string two,.int .i32 r] w fun e w'=>e = .returned (.int .i64 (-1))/\Below w.heap.size w w':=by
 unfold two;have a0:(0:Int)<=r:=(by omega);have a1:decide (r<128)=false:=(by rw[decide_eq_false_iff_not];omega);by_cases he:r=65533
 ·subst he
  go_enter Tryz.func152,Tryz.ntmps152
  go_wp2_with fail
  go_loopw [5,6] (fun _ _ wr=>∃k:Nat,k<=2/\wr.heap[w.heap.size]? = some (.stringIter ⟨#[47,0]⟩ k)/\Below w.heap.size w wr) (fun _ _ wr=>2-wr.iterPos w.heap.size)
  case atStart=>exact⟨0,by omega,World.iter_heap w _ 0,(Below.refl _ _).alloc (Nat.le_refl _) _⟩
  case round =>
   obtain⟨k,hk,hit,hb⟩:=hrel;have hpos0:wr.iterPos w.heap.size=k:=(by simp[World.iterPos,hit]);have rZ:=yH hpos0;clear hpos0;have hk3:k=0∨k=1∨k=2:=(by omega);rcases hk3 with rfl|rfl|rfl
   ·have hnx:∀ty,(Instr.next (.pointer (some ⟨w.heap.size,0,none⟩)) true ty).run Tryz.prog wr = .ok (.tuple #[.bool true,.int .i64 0,.int .i32 47]) (wr.iterAt w.heap.size ⟨#[47,0]⟩ 1):=fun ty=>Go.Lib.run_next_ascii_at wr w.heap.size ⟨#[47,0]⟩ 0 ty hit (by decide) (by decide)
    have HB:=yH (Go.Lib.below_iterAt hb (k:=w.heap.size) (Nat.le_refl _) ⟨#[47,0]⟩ 1);have HIT:=yH (Go.Lib.iterAt_heap wr w.heap.size _ 0 1 hit);obtain⟨W1,hW1⟩:∃W1,wr.iterAt w.heap.size ⟨#[47,0]⟩ 1=W1:=⟨_,rfl⟩;rw[hW1]at hnx HB HIT;clear hit hb hW1
    go_wp2_with fail
    go_roundw
    case rel=>exact⟨1,by omega,HIT.out,HB.out⟩
    case measure=>rw[rZ.out,World.iterPos,HIT.out];simp
   ·have hnx:∀ty,(Instr.next (.pointer (some ⟨w.heap.size,0,none⟩)) true ty).run Tryz.prog wr = .ok (.tuple #[.bool true,.int .i64 1,.int .i32 0]) (wr.iterAt w.heap.size ⟨#[47,0]⟩ 2):=fun ty=>Go.Lib.run_next_ascii_at wr w.heap.size ⟨#[47,0]⟩ 1 ty hit (by decide) (by decide)
    have HB:=yH (Go.Lib.below_iterAt hb (k:=w.heap.size) (Nat.le_refl _) ⟨#[47,0]⟩ 2);have HIT:=yH (Go.Lib.iterAt_heap wr w.heap.size _ 1 2 hit);obtain⟨W1,hW1⟩:∃W1,wr.iterAt w.heap.size ⟨#[47,0]⟩ 2=W1:=⟨_,rfl⟩;rw[hW1]at hnx HB HIT;clear hit hb hW1
    go_wp2_with fail
    go_roundw
    case rel=>exact⟨2,by omega,HIT.out,HB.out⟩
    case measure=>rw[rZ.out,World.iterPos,HIT.out];simp
   ·have hnx:∀ty,(Instr.next (.pointer (some ⟨w.heap.size,0,none⟩)) true ty).run Tryz.prog wr = .ok (.tuple #[.bool false]) wr:=fun ty=>Go.Lib.run_next_end_at wr w.heap.size ⟨#[47,0]⟩ 2 ty hit (by decide)
    have HB:=yH hb;clear hit hb
    go_wp2_with fail
    go_ret;exact⟨rfl,HB.out⟩
 ·have he':(r==65533)=false:=(by simpa using he);have hV:=vX r w a0 h1
  go_enter Tryz.func152,Tryz.ntmps152
  go_wp2_with fail;refine hV.mono ?_;rintro e w1 ⟨⟨b,rfl⟩,rfl⟩;cases b with
  | false =>
   go_wp2_with fail
   go_ret;exact⟨rfl,Below.refl _ _⟩
  | true =>
   rcases U4 r h0 with⟨c0,c1,ht,hc1⟩|⟨c0,c1,c2,ht⟩|⟨c0,c1,c2,c3,ht⟩
   ·have e1:((0:Int)==(c1.toNat:Int))=false:=(by simp;omega);have g1:∀h,(⟨#[47,0]⟩:ByteArray)[1]'h=0:=fun _=>rfl
    have g2:∀h,(⟨#[c0,c1]⟩:ByteArray)[1]'h=c1:=fun _=>rfl
    have e7:((((⟨#[47,0]⟩:ByteArray)[1]'(by decide)).toNat:Int) != (((⟨#[c0,c1]⟩:ByteArray)[1]'(by simp[ByteArray.size])).toNat:Int))=true:=(by rw[g1,g2];simp;omega);have e2:¬c1.toNat=0:=(by omega);have e3:¬c1=0:=fun e=>by rw[e]at hc1;simp at hc1
    have e4:¬(0:Int)=(c1.toNat:Int):=(by omega);have e5:((c1.toNat:Int)==0)=false:=(by simp;omega);have e6:¬(0:UInt8)=c1:=fun e=>e3 e.symm
    have hI:∀w,Calls Tryz.prog 191 #[.string ⟨#[]⟩,.int .u8 (c1.toNat:Int)] w fun e w'=>e = .returned (.int .i64 (-1))/\w=w':=fun w=>(yu.strings_IndexByte ⟨#[]⟩ (c1.toNat:Int) w).mono (by rintro e w' ⟨rfl,h⟩;exact⟨rfl,h⟩)
    go_wp2_with fail
    go_step3
    go_wp2_with fail;refine wp_loop_rounds 1 ?_;rw[rounds_succ]
    go_wp2_with fail
    go_step3
    go_wp2_with fail
    go_quiet (fail)
    go_wp2_with fail;have hz:(⟨#[47,0]⟩:ByteArray).size=2:=rfl;have hx:(⟨#[47,0]⟩:ByteArray).extract 2 2=⟨#[]⟩:=rfl;have hw2:IntKind.i64.wrap 2=2:=(by decide);have hx2:(⟨#[47,0]⟩:ByteArray).extract (Int.toNat 2) 2=⟨#[]⟩:=rfl
    go_region_held3 (fun _=>True) (first|trivial|go_keep) ((go_at_call 191;refine(hI _).mono ?_;rintro e w9 ⟨rfl,rfl⟩))
    all_goals
     simp only[Exit.then]
     go_wp2_with fail
    all_goals
     rw[Exit.noGoto_ret];simp only[Exit.inBlock,Exit.then];rw[Exit.noGoto_ret]
     go_ret;exact⟨rfl,(Dn.drewN _ _).below⟩
   ·go_wp2_with fail
    go_step3
    go_wp2_with fail;refine wp_loop_rounds 1 ?_;rw[rounds_succ]
    go_wp2_with fail;rw[Exit.noGoto_ret]
    go_ret;exact⟨rfl,Below.refl _ _⟩
   ·go_wp2_with fail
    go_step3
    go_wp2_with fail;refine wp_loop_rounds 1 ?_;rw[rounds_succ]
    go_wp2_with fail;rw[Exit.noGoto_ret]
    go_ret;exact⟨rfl,Below.refl _ _⟩
def uD(s:ByteArray):Bool:=s.data.toList.any fun b=>b==47||b==0
theorem Ll:(⟨#[47,0]⟩:ByteArray).data.toList = [47,0]:=rfl
theorem U5(x:UInt8):([47,0]:List UInt8).contains x=(x==47||x==0):=by
 rw[List.contains_cons,List.contains_cons];cases x==47<;>cases x==0<;>rfl
/-- none of the first k bytes is one of the two -/
def NoneTo(s:ByteArray)(k:Nat):Prop:=∀j (h:j<s.size),j<k->(s[j]==47||s[j]==0)=false
theorem GL{s:ByteArray}{k:Nat}(h:k<s.size)(hb:(s[k]==47||s[k]==0)=true):uD s=true:=by
 unfold uD;rw[List.any_eq_true];exact⟨s[k],List.mem_of_getElem? (Lb.dm s k h),hb⟩
theorem Cb{s:ByteArray}{k:Nat}(hk:s.size<=k)(h:NoneTo s k):uD s=false:=by
 unfold uD;rw[List.any_eq_false];intro b hb;obtain⟨j,hj,rfl⟩:=List.getElem_of_mem hb;have hj2:j<s.size:=(by simpa using hj);have:=h j hj2 (by omega);rw[show s.data.toList[j]=s[j]from rfl,this];simp
theorem yA(x:UInt8):firstIdx ⟨#[47,0]⟩ x=if(x==47)=true then 0 else if(x==0)=true then 1 else -1:=by
 rw[yu.firstIdx_eq];show yu.first [47,0] x=_
 unfold yu.first
 by_cases h1:x=47
 ·subst h1;rfl
 ·by_cases h2:x=0
  ·subst h2;rfl
  ·have e1:(x==47)=false:=(by simpa using h1);have e2:(x==0)=false:=(by simpa using h2);have e3:((47:UInt8)==x)=false:=(by simpa using fun e=>h1 e.symm);have e4:((0:UInt8)==x)=false:=(by simpa using fun e=>h2 e.symm);simp[e1,e2,List.findIdx?_cons,e3,e4]
theorem vY{x:UInt8}(h:(x==47||x==0)=false):firstIdx ⟨#[47,0]⟩ x = -1:=by
 rw[Bool.or_eq_false_iff]at h;rw[yA,h.1,h.2];rfl
theorem xQ{x:UInt8}(h:(x==47||x==0)=true):0<=firstIdx ⟨#[47,0]⟩ x:=by
 rw[yA];split
 ·decide
 ·split
  ·decide
  ·next h1 h2=>rw[Bool.or_eq_true]at h;exact absurd h (by simp[h1,h2])
def zQ(w:World)(s:ByteArray)(e:Ending)(w':World):Prop:=(∃z:Int,e = .returned (.int .i64 z)/\(0<=z↔uD s=true))/\Below w.heap.size w w'
theorem Zp(w:World):(zeroValue 290).run Tryz.prog w = .ok (.agg (Array.replicate 256 (.bool false))) w:=by kernel_rfl
theorem Tn:(Tryz.prog.info? 290).map (·.size)=some 256:=by kernel_rfl
set_option maxRecDepth 20000 in
theorem Qc(s:ByteArray)(w:World)(h8:8<s.size)(hs:s.size<=1099511627776):Calls Tryz.prog 240 #[.string s,.string ⟨#[47,0]⟩] w (zQ w s):=by
 have hM:=fun w=>strings_makeASCIISet Zp Tn ⟨#[47,0]⟩ w (by decide) (by
  intro j b hb
  match j,hb with
  | 0,hb=>simp at hb;subst hb;decide
  | 1,hb=>simp at hb;subst hb;decide
  | (j+2),hb=>simp at hb)
 have h8z:decide ((8:Int)<(s.size:Int))=true:=decide_eq_true (by omega);have hU:=fun w=>strings_shouldUseASCIISet (s.size:Int) w
 rw[h8z]at hU;obtain⟨Z,hZ⟩:∃Z,Lib.setCells (⟨#[47,0]⟩:ByteArray).data.toList=Z:=⟨_,rfl⟩;have hsz:Z.size=256:=(by rw[←hZ];exact Lib.setCells_size _);have hoc:Z.all (·.oneCell')=true:=(by rw[←hZ];exact Lib.setCells_one _);have hat:∀x:UInt8,Z[x.toNat]? = some (.bool (x==47||x==0)):=fun x=>by rw[←hZ,Lib.setCells_at,Ll,U5]
 have HAT:=yH hat;have HOC:=yH hoc;rw[hZ]at hM;clear hZ hat hoc
 go_enter Tryz.func240,Tryz.ntmps240
 go_wp2_with fail;refine(hU _).mono ?_;rintro e w1 ⟨rfl,rfl⟩
 go_wp2_with fail;refine(hM _).mono ?_;rintro e w2 ⟨rfl,b2⟩
 go_wp2_with (refine wpList_store_mid (by rfl) 290 _ _ (by rfl) w2.heap.size 0 Z (by rfl) (by rfl) ?h4 ?h5 ?h6 ?_;rotate_right;refine Mem.named ?_;intro W hW)
 case h4=>exact(Bx.new w2 Tryz.zeroCells290 290).there _ (by rw[hsz];rfl)
 case h5=>rw[hsz];exact Tn
 case h6=>exact HOC.out
 have hW2:(w2.alloc (.cells Tryz.zeroCells290 290)).setCells w2.heap.size 0 Z.toList=W:=hW;have bW:=b2.trans ((aX hW2).mono b2.size);have hrg:=aZ hW2 (by rw[Array.length_toList,hsz];rfl);have Lm:=yH (show ∀x:UInt8,W.cell? ⟨w2.heap.size,x.toNat,none⟩=some (.bool (x==47||x==0))from fun x=>by
  have:=hrg x.toNat (.bool (x==47||x==0)) (by rw[Array.getElem?_toList];exact HAT.out x)
  simpa using this)
 have BW:=yH bW;clear hW hW2 hrg bW b2 hM hU
 go_wp2_with fail
 go_loopw [8] (fun i wr=>∃k:Nat,k<=s.size/\i = .int .i64 k/\Hid (wr=W/\NoneTo s k)) (fun i _=>s.size-(intOf i).toNat)
 case atStart=>exact⟨0,Nat.zero_le _,rfl,yH ⟨rfl,fun j _ h=>absurd h (by omega)⟩⟩
 case round =>
  obtain⟨k,hk,rfl,HI⟩:=hrel;obtain⟨rfl,hno⟩:=HI.out;have k0:(0:Int)<=(k:Int):=Int.natCast_nonneg _;by_cases hlt:k<s.size
  ·have k1:(k:Int)<(s.size:Int):=(by omega);obtain⟨x,hx⟩:∃x,s[k]=x:=⟨_,rfl⟩;have hc:=Lm.out x;have HX:=yH hx;have Eh:=yH hlt;have Tm:=yH hno;cases hb:(x==47||x==0)with
   | false =>
    rw[hb]at hc;have HB:=yH hb;have hA:=asciiSet_contains w2.heap.size x false wr hc;clear hb hc HI hno
    go_wp2_with fail;refine hA.mono ?_;rintro e w9 ⟨rfl,rfl⟩
    go_wp2_with fail
    go_roundw
    case rel=>exact⟨k+1,by omega,by go_num,yH ⟨by first|rfl|trivial,fun j hj hjk=>by
     by_cases e:j=k
     ·subst e;rw[HX.out];exact HB.out
     ·exact Tm.out j hj (by omega)⟩⟩
    case measure=>simp[intOf];omega
   | true =>
    rw[hb]at hc;have HB:=yH (show uD s=true from GL hlt (by rw[hx];exact hb));have hA:=asciiSet_contains w2.heap.size x true wr hc;clear hb hc HI hno
    go_wp2_with fail;refine hA.mono ?_;rintro e w9 ⟨rfl,rfl⟩
    go_wp2_with fail
    go_ret;exact⟨⟨_,rfl,⟨fun _=>HB.out,fun _=>k0⟩⟩,BW.out⟩
  ·have HB:=yH (show uD s=false from Cb (by omega) hno);have k1:¬(k:Int)<(s.size:Int):=(by omega);clear HI hno
   go_wp2_with fail
   go_ret;exact⟨⟨_,rfl,⟨fun h=>absurd h (by decide),fun h=>by rw[HB.out]at h;cases h⟩⟩,BW.out⟩
set_option maxRecDepth 20000 in
theorem Lp(s:ByteArray)(w:World)(h8:s.size<=8):Calls Tryz.prog 240 #[.string s,.string ⟨#[47,0]⟩] w (zQ w s):=by
 have h8z:decide ((8:Int)<(s.size:Int))=false:=decide_eq_false (by omega);have hU:=fun w=>strings_shouldUseASCIISet (s.size:Int) w
 rw[h8z]at hU
 go_enter Tryz.func240,Tryz.ntmps240
 go_wp2_with fail;refine(hU _).mono ?_;rintro e w1 ⟨rfl,rfl⟩
 go_wp2_with fail
 go_loopw [9,10] (fun _ _ wr=>∃k:Nat,wr.heap[w1.heap.size]? = some (.stringIter s k)/\Below w1.heap.size w1 wr/\Hid (NoneTo s k)) (fun _ _ wr=>s.size-wr.iterPos w1.heap.size)
 case atStart=>exact⟨0,World.iter_heap w1 s 0,(Below.refl _ _).alloc (Nat.le_refl _) _,yH (fun j _ h=>absurd h (by omega))⟩
 case round =>
  obtain⟨k,hit,hb,Tm⟩:=hrel;have hpos0:wr.iterPos w1.heap.size=k:=(by simp[World.iterPos,hit]);have rZ:=yH hpos0;clear hpos0 hU;by_cases hp:k<s.size
  ·have hnx:∀ty,(Instr.next (.pointer (some ⟨w1.heap.size,0,none⟩)) true ty).run Tryz.prog wr=_:=fun ty=>Go.Lib.run_next_any_at wr w1.heap.size s k ty hit hp
   have hb2:=Go.Lib.below_iterAt hb (k:=w1.heap.size) (Nat.le_refl _) s (k+(Utf8.decode s k).2);have hit2:=Go.Lib.iterAt_heap wr w1.heap.size s k (k+(Utf8.decode s k).2) hit;have hwl:w1.heap.size<wr.heap.size:=(Array.getElem?_eq_some_iff.1 hit).1;have HP:=yH hp;by_cases hc:(s[k]'hp).toNat<128
   ·have hd:=decode_ascii s k hp hc;rw[hd]at hnx hb2 hit2;dsimp only at hnx hb2 hit2;have HIT:=yH hit2;have HB:=yH hb2;obtain⟨W1,hW1⟩:∃W1,W1=wr.iterAt w1.heap.size s (k+1):=⟨_,rfl⟩;rw[←hW1]at hnx HIT HB;obtain⟨c,hce⟩:∃c,(s[k]'hp).toNat=c:=⟨_,rfl⟩;rw[hce]at hnx hc;have hI:=Pre.BX ⟨#[47,0]⟩ c hc W1;have HC:=yH hce;have c0:(0:Int)<=(c:Int):=Int.natCast_nonneg _;have hx:s[k]'hp=UInt8.ofNat c:=(by rw[←hce,UInt8.ofNat_toNat]);have HX:=yH hx;cases hbb:(UInt8.ofNat c==47||UInt8.ofNat c==0)with
    | false =>
     have hz:firstIdx ⟨#[47,0]⟩ (UInt8.ofNat c) = -1:=vY hbb;rw[hz]at hI;have HBB:=yH hbb;clear hd hit hb hit2 hb2 hW1 hce hx hbb hz
     go_wp2_with fail;refine hI.mono ?_;rintro e w9 ⟨rfl,rfl⟩
     go_wp2_with fail
     go_roundw
     case rel=>exact⟨k+1,HIT.out,HB.out,yH (fun j hj hjk=>by
      by_cases e:j=k
      ·subst e;rw[HX.out];exact HBB.out
      ·exact Tm.out j hj (by omega))⟩
     case measure=>rw[rZ.out,World.iterPos,HIT.out];have:=HP.out;simp;omega
    | true =>
     have hz:0<=firstIdx ⟨#[47,0]⟩ (UInt8.ofNat c):=xQ hbb;have HBAD:=yH (show uD s=true from GL hp (by rw[hx];exact hbb));obtain⟨z,hze⟩:∃z,firstIdx ⟨#[47,0]⟩ (UInt8.ofNat c)=z:=⟨_,rfl⟩;rw[hze]at hI hz;clear hd hit hb hit2 hb2 hW1 hce hx hbb hze
     go_wp2_with fail;refine hI.mono ?_;rintro e w9 ⟨rfl,rfl⟩
     go_wp2_with fail
     go_ret;have hk0:(0:Int)<=(k:Int):=Int.natCast_nonneg _;exact⟨⟨_,rfl,⟨fun _=>HBAD.out,fun _=>hk0⟩⟩,HB.out⟩
   ·obtain⟨d1,d2,d3,d4⟩:=Lj s k hp (by omega);obtain⟨rr,hrr⟩:∃rr,(Utf8.decode s k).1=rr:=⟨_,rfl⟩;obtain⟨wd,hwd⟩:∃wd,(Utf8.decode s k).2=wd:=⟨_,rfl⟩;rw[hrr]at hnx d1 d2;rw[hwd]at hnx hb2 hit2 d3 d4;have HIT:=yH hit2;have HB:=yH hb2;obtain⟨W1,hW1⟩:∃W1,W1=wr.iterAt w1.heap.size s (k+wd):=⟨_,rfl⟩;rw[←hW1]at hnx HIT HB;have hI:=zcb (rr:Int) W1 (by omega) (by omega);unfold two at hI;have hsz1:w1.heap.size<W1.heap.size:=(Array.getElem?_eq_some_iff.1 HIT.out).1;have oN:=yH (show NoneTo s (k+wd)from fun j hj hjk=>by
     by_cases e:j<k
     ·exact Tm.out j hj e
     ·have:=d4 j hj (by omega) hjk;rw[Bool.or_eq_false_iff];constructor
      ·rw[beq_eq_false_iff_ne];intro e2;rw[e2]at this;simp at this
      ·rw[beq_eq_false_iff_ne];intro e2;rw[e2]at this;simp at this)
    have HD:=yH d3;clear hit hb hit2 hb2 hW1 hrr hwd d1 d2 d3 d4 hc
    go_wp2_with fail;refine hI.mono ?_;rintro e w9 ⟨rfl,b9⟩;have Zq:=(b9.block w1.heap.size hsz1).trans HIT.out;have Zr:=yH Zq;have HB9:=yH (HB.out.trans (b9.mono HB.out.size));clear Zq b9
    go_wp2_with fail
    go_roundw
    case rel=>exact⟨k+wd,Zr.out,HB9.out,oN⟩
    case measure=>rw[rZ.out,World.iterPos,Zr.out];have:=HP.out;have:=HD.out;simp;omega
  ·have hnx:∀ty,(Instr.next (.pointer (some ⟨w1.heap.size,0,none⟩)) true ty).run Tryz.prog wr = .ok (.tuple #[.bool false]) wr:=fun ty=>Go.Lib.run_next_end_at wr w1.heap.size s k ty hit hp
   have HBAD:=yH (show uD s=false from Cb (by omega) Tm.out);have HB:=yH hb;clear hit hb
   go_wp2_with fail
   go_ret;exact⟨⟨_,rfl,⟨fun h=>absurd h (by decide),fun h=>by rw[HBAD.out]at h;cases h⟩⟩,HB.out⟩
theorem zcc(s:ByteArray)(w:World)(hs:s.size<=1099511627776):Calls Tryz.prog 240 #[.string s,.string ⟨#[47,0]⟩] w (zQ w s):=by
 by_cases h:s.size<=8
 ·exact Lp s w h
 ·exact Qc s w (by omega) hs
theorem su(s:ByteArray)(w:World)(hs:s.size<=1099511627776) :
 Calls Tryz.prog 235 #[.string s,.string ⟨#[47,0]⟩] w fun e w'=>e = .returned (.bool (uD s))/\Below w.heap.size w w':=by
 have hC:=zcc s w hs
 go_enter Tryz.func235,Tryz.ntmps235
 go_wp2_with fail;refine hC.mono ?_;rintro e w1 ⟨⟨z,rfl,hz⟩,b1⟩;obtain⟨B,hB⟩:∃B,uD s=B:=⟨_,rfl⟩;rw[hB]at hz;have HB:=yH hB;cases B with
 | true =>
  have h0:=hz.2 rfl;clear hz hB
  go_wp2_with fail
  go_ret;exact⟨by rw[HB.out];rfl,b1⟩
 | false =>
  have h0:¬0<=z:=fun h=>by have:=hz.1 h;cases this
  have h1:=decide_eq_false h0;clear hz hB
  go_wp2_with fail
  go_ret;exact⟨by rw[HB.out];rfl,b1⟩
end Any

namespace lK
open Go.RowKit Mem Tr
def dQ(n:Nat):Nat:=8+(n+7) / 8*8
def aj:List ByteArray->Nat
 | []=>0
 | s :: r=>dQ s.size+aj r
theorem gW(n:Nat):dQ n<=n+15:=by unfold dQ;omega
theorem dR(a b:List ByteArray):aj (a++b)=aj a+aj b:=by
 induction a with
 | nil=>simp[aj]
 | cons s r ih=>simp only[List.cons_append,aj,ih];omega
theorem zS(l:List ByteArray)(k:Nat)(h:k<l.length):aj (l.take (k+1))=aj (l.take k)+dQ l[k].size:=by
 rw[List.take_succ_eq_append_getElem h,dR];simp[aj]
theorem uF(l:List ByteArray)(k:Nat):aj (l.take k)<=aj l:=by
 conv=>rhs;rw[←List.take_append_drop k l,dR]
 omega
theorem aS(n:Nat)(w:World)(hn:n<=1099511627776) :
 Calls Tryz.prog 215 #[.int .i64 (n:Int)] w fun e w'=>e = .returned (.int .i64 (dQ n:Nat))/\w=w':=by
 have e0:(0:Int)<=(n:Int):=(by omega);have e1:decide ((n:Int)<0)=false:=(by simp);have e2:decide ((1099511627776:Int)<(n:Int))=false:=(by rw[decide_eq_false_iff_not];omega)
 go_enter Tryz.func215,Tryz.ntmps215
 go_wp2
 go_ret;exact⟨gK (by unfold dQ;omega),rfl⟩
theorem Lr{l:List ByteArray}(hl:l.length<=64)(hs:∀s∈l,s.size<=1099511627776):aj l<=64*1099511627791:=by
 have:aj l<=l.length*1099511627791:=by
  clear hl
  induction l with
  | nil=>simp[aj]
  | cons s r ih =>
   have h1:=ih (fun x hx=>hs x (List.mem_cons_of_mem _ hx));have h2:=hs s (List.mem_cons_self ..);have h3:=gW s.size;simp only[aj,List.length_cons];omega
 exact Nat.le_trans this (Nat.mul_le_mul_right _ hl)
/-- the room of the words of a row -/
theorem ET(b off cap n:Nat)(l:List ByteArray)(w:World)(hl:l.length=n)(hn:n<=64)(hs:∀s∈l,s.size<=1099511627776)(hc:∀j (h:j<l.length),w.cell? ⟨b,off+j,none⟩=some (.string l[j])) :
 Calls Tryz.prog 185 #[.slice (some ⟨b,off,none⟩) n cap] w fun e w'=>e = .returned (.int .i64 (aj l:Nat))/\w=w':=by
 have hb:=Lr (by omega) hs;have HL:=yH hl;have HC:=yH hc;have HS:=yH hs;have HB:=yH hb;clear hl hc hs hb
 go_enter Tryz.func185,Tryz.ntmps185
 go_wp2
 go_loop [3,8,5] (fun s i _=>∃k:Nat,k<=n/\i = .int .i64 k/\s = .int .i64 (aj (l.take k):Nat)) (fun _ i _=>n-(intOf i).toNat)
 case atStart=>exact⟨0,Nat.zero_le _,rfl,by simp[aj]⟩
 case round =>
  obtain⟨k,hk,rfl,rfl⟩:=hrel;have h1:=Nat.le_trans (uF l k) HB.out;by_cases hlt:k<n
  ·have kl:k<l.length:=(by rw[HL.out];exact hlt);have k0:(0:Int)<=(k:Int):=Int.natCast_nonneg _;have k1:(k:Int)<(n:Int):=(by omega);have g:=HC.out k kl;have gs:=HS.out l[k] (List.getElem_mem kl);have hsn:=zS l k kl;have hfl:=gW l[k].size;obtain⟨s,hs'⟩:∃s,l[k]=s:=⟨_,rfl⟩;rw[hs']at g gs hsn hfl;have Hsn:=yH hsn;clear hsn hs'
   go_wp2_with (go_at_call 215;refine(aS s.size _ gs).mono ?_;rintro e w' ⟨rfl,rfl⟩)
   go_round
   case rel=>exact⟨k+1,by omega,by go_num,by rw[Hsn.out];go_num⟩
   case measure=>simp[intOf];omega
  ·obtain rfl:k=n:=(by omega)
   go_wp2
   go_ret;exact⟨gK (by rw[List.take_of_length_le (by rw[HL.out];exact Nat.le_refl _)]),rfl⟩
theorem vZ{l:List ByteArray}{N:Nat}(h:aB l<=N):∀s∈l,s.size<=N:=fun s hs=>by have:=vP hs;omega
theorem bM(l:List ByteArray):aj l<=aB l+15*l.length:=by
 induction l with
 | nil=>simp[aj,aB]
 | cons s r ih=>have:=gW s.size;simp only[aj,aB,List.length_cons];omega
theorem kH(b n:Nat)(t:TypeId)(l:List ByteArray)(w:World)(hb:Bx w b (l.map Value.string).toArray t)(hl:l.length=n)(hn:n<=64)(hs:aB l<=1099511627776) :
 Calls Tryz.prog 185 #[.slice (some ⟨b,0,none⟩) n n] w fun e w'=>e = .returned (.int .i64 (aj l:Nat))/\w=w' :=
 ET b 0 n n l w hl hn (vZ hs) (fun j h=>by rw[Nat.zero_add,hb.cell];simp[h])
end lK

namespace jB
open Go.RowKit Mem Tr lK
def iQ(t:ByteArray):Int:=if t.size=0∨0<=yu.first t.data.toList 0 then 63 else 0
def aG(kind:Int)(exec:Bool)(text:ByteArray)(nk:Nat):Int :=
 if kind=1 then if 0<nk then 62 else 0
 else if kind=2 then if exec=true∨0<nk then 62 else iQ text
 else if kind=3 then if exec=true∨text.size≠0 then 62 else 0
 else 60
theorem Qd(t:ByteArray)(w:World)(ht:t.size<=1099511627776) :
 Calls Tryz.prog 234 #[.string t] w fun e w'=>e = .returned (.int .i64 (iQ t))/\w=w':=by
 have hf:=yu.BO t.data.toList 0;by_cases h0:t.size=0
 ·have h1:iQ t=63:=(by unfold iQ;rw[if_pos (.inl h0)]);have H1:=yH h1;have tt:t.toList = []:=(by rw[Lib.toList_data];exact List.eq_nil_of_length_eq_zero (by simpa using h0));have t2:t.toList.isEmpty=true:=(by rw[tt];rfl);clear h1 h0 tt
  go_enter Tryz.func234,Tryz.ntmps234
  go_wp2_with fail
  go_ret;exact⟨by rw[H1.out];rfl,rfl⟩
 ·have t2:t.toList.isEmpty=false:=(by rw[Lib.toList_data];simp;intro e;apply h0;simp[ByteArray.size,e]);have H0:=yH h0;clear h0
  go_enter Tryz.func234,Tryz.ntmps234
  go_wp2_with fail;refine(yu.strings_IndexByte t 0 _).mono ?_;rintro e w' ⟨rfl,rfl⟩;have hx:firstIdx t (0:Int).toNat.toUInt8=yu.first t.data.toList 0:=yu.firstIdx_eq t 0
  rw[hx];generalize hz:yu.first t.data.toList 0=z at *
  have Hz:=yH hz;clear hz hx;by_cases hz0:0<=z
  ·go_wp2_with fail
   go_ret;exact⟨gK (by unfold iQ;rw[Hz.out,if_pos (.inr hz0)]),rfl⟩
  ·go_wp2_with fail
   go_ret;exact⟨gK (by unfold iQ;rw[Hz.out,if_neg (fun h=>h.elim (fun h=>H0.out h) (fun h=>by omega))]),rfl⟩
theorem qI(k:Int)(ex:Bool)(t:ByteArray)(ao:Option Addr)(n cap:Nat)(w:World)(ht:t.size<=1099511627776) :
 Calls Tryz.prog 216 #[.agg #[.int .i64 k,.bool ex,.string t,.slice ao n cap]] w fun e w'=>e = .returned (.int .i64 (aG k ex t n))/\Below w.heap.size w w':=by
 have hB:=(Below.refl _ w).alloc (Nat.le_refl _) (.cells #[.int .i64 k,.bool ex,.string t,.slice ao n cap] 26);have HB:=yH hB;clear hB;by_cases k1:k=1
 ·have q:(k==1)=true:=(by simp[k1]);have F:Hid (aG k ex t n=if 0<n then 62 else 0):=yH (by unfold aG;rw[if_pos k1]);clear k1;by_cases hn:0<n
  all_goals
   go_enter Tryz.func216,Tryz.ntmps216
   go_wp2_with fail
   go_ret;exact⟨gK (by rw[F.out];simp[hn]),HB.out⟩
 by_cases k2:k=2
 ·have q:(k==1)=false:=(by simp[k1]);have q2:(k==2)=true:=(by simp[k2]);have F:Hid (aG k ex t n=if ex=true∨0<n then 62 else iQ t):=yH (by unfold aG;rw[if_neg k1,if_pos k2]);clear k1 k2;by_cases hn:ex=true∨0<n
  ·cases ex
   ·have hn':0<n:=(by simpa using hn)
    go_enter Tryz.func216,Tryz.ntmps216
    go_wp2_with fail
    go_ret;exact⟨gK (by rw[F.out];simp[hn']),HB.out⟩
   ·clear hn
    go_enter Tryz.func216,Tryz.ntmps216
    go_wp2_with fail
    go_ret;exact⟨gK (by rw[F.out];simp),HB.out⟩
  ·obtain rfl:ex=false:=(by simpa using fun h=>hn (.inl h));obtain rfl:n=0:=by
    have:¬0<n:=fun h=>hn (.inr h)
    omega
   clear hn
   go_enter Tryz.func216,Tryz.ntmps216
   go_wp2_with fail;refine(Qd t _ ht).mono ?_;rintro e w' ⟨rfl,rfl⟩
   go_wp2_with fail
   go_ret;exact⟨gK (by rw[F.out];simp),HB.out⟩
 by_cases k3:k=3
 ·have q:(k==1)=false:=(by simp[k1]);have q2:(k==2)=false:=(by simp[k2]);have q3:(k==3)=true:=(by simp[k3]);have F:Hid (aG k ex t n=if ex=true∨t.size≠0 then 62 else 0):=yH (by unfold aG;rw[if_neg k1,if_neg k2,if_pos k3]);clear k1 k2 k3;cases ex
  ·by_cases h0:t.size=0
   ·have tt:t.toList = []:=(by rw[Lib.toList_data];exact List.eq_nil_of_length_eq_zero (by simpa using h0));have t2:t.toList.isEmpty=true:=(by rw[tt];rfl);have H0:=yH h0;clear tt h0
    go_enter Tryz.func216,Tryz.ntmps216
    go_wp2_with fail
    go_ret;exact⟨gK (by rw[F.out];simp[H0.out]),HB.out⟩
   ·have t2:t.toList.isEmpty=false:=(by rw[Lib.toList_data];simp;intro e;apply h0;simp[ByteArray.size,e]);have H0:=yH h0;clear h0
    go_enter Tryz.func216,Tryz.ntmps216
    go_wp2_with fail
    go_ret;exact⟨gK (by rw[F.out];simp[H0.out]),HB.out⟩
  ·go_enter Tryz.func216,Tryz.ntmps216
   go_wp2_with fail
   go_ret;exact⟨gK (by rw[F.out];simp),HB.out⟩
 ·have q:(k==1)=false:=(by simp[k1]);have q2:(k==2)=false:=(by simp[k2]);have q3:(k==3)=false:=(by simp[k3]);have F:Hid (aG k ex t n=60):=yH (by unfold aG;rw[if_neg k1,if_neg k2,if_neg k3]);clear k1 k2 k3
  go_enter Tryz.func216,Tryz.ntmps216
  go_wp2_with fail
  go_ret;exact⟨gK (by rw[F.out]),HB.out⟩
def dh(path kid:ByteArray)(depth:Nat):ByteArray:=if depth=1 then kid else path++(⟨#[47]⟩:ByteArray)++kid
theorem U6(path kid:ByteArray)(depth:Nat)(w:World)(hp:path.size+kid.size+1<=1099511627776)(hd:depth<=100) :
 Calls Tryz.prog 218 #[.string path,.string kid,.int .i64 (depth:Int)] w fun e w'=>e = .returned (.string (dh path kid depth))/\w=w':=by
 by_cases h1:depth=1
 ·subst h1
  go_enter Tryz.func218,Tryz.ntmps218
  go_wp2_with fail
  go_ret;exact⟨rfl,rfl⟩
 ·have q:((depth:Int)==1)=false:=(by simp;omega);have h2:path.size+1<=9223372036854775807:=(by omega);have h3:path.size+1+kid.size<=9223372036854775807:=(by omega)
  go_enter Tryz.func218,Tryz.ntmps218
  go_wp2_with fail
  go_ret;exact⟨by unfold dh;rw[if_neg h1];rfl,rfl⟩
/-- add, where there is room -/
theorem zT(p:Nat)(path:ByteArray)(a n:Nat)(w:World)(hc:w.cell? ⟨p,0,none⟩=some (.int .i64 (a:Int)))(hf:w.frozen? ⟨p,0,none⟩=false)(ha:a<=1048576)(hn:n<=1099511627776)(hs:a+n<=1048576) :
 Calls Tryz.prog 217 #[.pointer (some ⟨p,0,none⟩),.string path,.int .i64 (n:Int)] w fun e w'=>e = .returned (.tuple #[])/\w.setCell ⟨p,0,none⟩ (.int .i64 ((a+n:Nat):Int))=w':=by
 go_enter Tryz.func217,Tryz.ntmps217
 go_wp2_with fail
 go_end0;exact⟨rfl,by rw[Int.natCast_add]⟩
/-- what a walk gives up with -/
def off(path:ByteArray)(code:Int):Value:=.iface 245 (.agg #[.string path,.int .i64 code])
theorem IK(p:Nat)(path:ByteArray)(a n:Nat)(w:World)(hc:w.cell? ⟨p,0,none⟩=some (.int .i64 (a:Int)))(hf:w.frozen? ⟨p,0,none⟩=false)(ha:a<=1048576)(hn:n<=1099511627776)(hs:1048576<a+n) :
 Calls Tryz.prog 217 #[.pointer (some ⟨p,0,none⟩),.string path,.int .i64 (n:Int)] w fun e w'=>e = .panicked [{ v:=off path 2,recovered:=false }]/\w.setCell ⟨p,0,none⟩ (.int .i64 ((a+n:Nat):Int))=w':=by
 go_enter Tryz.func217,Tryz.ntmps217
 go_wp2_with fail;exact⟨rfl,rfl,by rw[Int.natCast_add]⟩
end jB

namespace Name
open Go.RowKit Mem Tr lK jB
def bK(s:ByteArray):Int :=
 if s.size=0 then 50 else if 255<s.size then 6 else if s.data.toList.any (fun b=>b==47||b==0)=true then 51
 else if s=⟨#[46]⟩∨s=⟨#[46,46]⟩then 52 else 0
set_option maxRecDepth 20000 in
theorem Zt(s:ByteArray)(w:World)(hs:s.size<=1099511627776) :
 Calls Tryz.prog 219 #[.string s] w fun e w'=>e = .returned (.int .i64 (bK s))/\Below w.heap.size w w':=by
 by_cases h0:s.size=0
 ·have hE:bK s=50:=(by unfold bK;rw[if_pos h0]);obtain rfl:s=⟨#[]⟩:=ByteArray.ext (Array.eq_empty_of_size_eq_zero h0);rw[hE];clear hE h0
  go_enter Tryz.func219,Tryz.ntmps219
  go_wp2_with fail
  go_ret;exact⟨rfl,Below.refl _ _⟩
 have t1:(s.toList == [])=false:=by
  rw[Lib.toList_data];cases hl:s.data.toList with
  | nil =>
   have hlen:s.data.toList.length=s.size:=Array.length_toList;rw[hl]at hlen;exact absurd hlen.symm h0
  | cons _ _=>rfl
 by_cases h1:255<s.size
 ·have hE:bK s=6:=(by unfold bK;rw[if_neg h0,if_pos h1]);have h2:(255:Int)<s.size:=(by omega);rw[hE];clear hE h0
  go_enter Tryz.func219,Tryz.ntmps219
  go_wp2_with fail
  go_ret;exact⟨rfl,Below.refl _ _⟩
 have h2:¬(255:Int)<s.size:=(by omega);have h3:decide ((255:Int)<(s.size:Int))=false:=decide_eq_false h2;have hC:=Any.su s w hs;cases hb:Any.uD s with
 | true =>
  have hE:bK s=51:=(by unfold bK;rw[if_neg h0,if_neg h1,if_pos (show s.data.toList.any (fun b=>b==47||b==0)=true from hb)]);rw[hb]at hC;rw[hE];clear hE h0 hb
  go_enter Tryz.func219,Tryz.ntmps219
  go_wp2_with fail;refine hC.mono ?_;rintro e w1 ⟨rfl,b1⟩
  go_wp2_with fail
  go_ret;exact⟨rfl,b1⟩
 | false =>
  have hE0:bK s=if s=⟨#[46]⟩∨s=⟨#[46,46]⟩then 52 else 0:=by
   unfold bK;rw[if_neg h0,if_neg h1];have:¬(s.data.toList.any (fun b=>b==47||b==0)=true):=by
    have:s.data.toList.any (fun b=>b==47||b==0)=false:=hb;rw[this];decide
   rw[if_neg this]
  rw[hb]at hC;by_cases e1:s=⟨#[46]⟩
  ·have hE:bK s=52:=(by rw[hE0,if_pos (.inl e1)]);subst e1;rw[hE];clear hE hE0 h0 hb
   go_enter Tryz.func219,Tryz.ntmps219
   go_wp2_with fail;refine hC.mono ?_;rintro e w1 ⟨rfl,b1⟩
   go_wp2_with fail
   go_ret;exact⟨rfl,b1⟩
  ·by_cases e2:s=⟨#[46,46]⟩
   ·have hE:bK s=52:=(by rw[hE0,if_pos (.inr e2)]);subst e2;rw[hE];clear hE hE0 h0 hb
    go_enter Tryz.func219,Tryz.ntmps219
    go_wp2_with fail;refine hC.mono ?_;rintro e w1 ⟨rfl,b1⟩
    go_wp2_with fail
    go_ret;exact⟨rfl,b1⟩
   ·have hE:bK s=0:=(by rw[hE0,if_neg (fun h=>h.elim e1 e2)]);have q1:(s.toList == [46])=false:=by
     rw[Lib.toList_data]
     simpa using fun e=>e1 (Lb.str_eq (b:=⟨#[46]⟩) e)
    have q2:(s.toList == [46,46])=false:=by
     rw[Lib.toList_data]
     simpa using fun e=>e2 (Lb.str_eq (b:=⟨#[46,46]⟩) e)
    rw[hE];clear hE hE0 h0 hb e1 e2
    go_enter Tryz.func219,Tryz.ntmps219
    go_wp2_with fail;refine hC.mono ?_;rintro e w1 ⟨rfl,b1⟩
    go_wp2_with fail
    go_ret;exact⟨rfl,b1⟩
end Name
end Go.Proofs.YtmmmghpimdfleaaGreatDoor
