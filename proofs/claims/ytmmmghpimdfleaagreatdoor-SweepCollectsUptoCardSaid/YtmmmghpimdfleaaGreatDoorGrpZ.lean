/-
  slices.Sort at []string: the shelf's contract laid at this seat's dump by lay-shelf.mjs and lay-plain.mjs (Sort.Plain, SortNone): ITS NUMBERS ARE THIS zdF: lay it anew for another seat.
  slices.Sort at []string by what the row owns; sorted lists of texts.
  A map of the call's own that keeps a set of texts: every key that is there holds 1.
  View.Closure: the paths that are reached from the roots, rising.
  A map from texts to counts, as a function.
  A store has no zdG of references; an order of all is therefore whole, and there is one order only.
  What a sweep does, over a store's records: live and dead paths, the one that goes next, and what is left in the end.

  sweep.Score, zei.Less, and which of two zdH paths goes first.
  sweep.Live and sweep.Dead.
  pO.Sorted: the texts of a list rising, each once.
-/
import Derived.Test.YtmmmghpimdfleaaGreatDoorTk
import Derived.Shelf.Sort.Plain
import Derived.Shelf.Slices.In.SortNone
import Derived.Test.YtmmmghpimdfleaaGreatDoorProg
import Derived.Test.YtmmmghpimdfleaaGreatDoorGrpA
import Derived.Sort.OwnSorted
import Derived.Test.YtmmmghpimdfleaaGreatDoorGrpT
import Derived.Maps.Views
import Derived.Test.YtmmmghpimdfleaaGreatDoorGrpV
import Derived.Test.YtmmmghpimdfleaaGreatDoorStock
import Derived.Test.YtmmmghpimdfleaaGreatDoorGrpX
import Derived.Laws.FloatArith
namespace Go.Proofs
open Go.Shelf
def Tryz.DV:Go.Shelf.Ren:=⟨fun|190=>92|125=>133|258=>132|128=>171|129=>172|302=>163|303=>164|304=>165|305=>166|306=>167|307=>168|308=>155|309=>169|310=>170|333=>200|329=>201|330=>202|334=>203|335=>204|336=>197|344=>227|n=>n,fun|31=>27|9=>9|3=>3|46=>164|0=>0|51=>207|53=>228|4=>4|183=>221|182=>220|131=>171|5=>5|218=>257|222=>261|228=>278|229=>279|n=>n,fun|n=>n⟩
theorem Tryz.lays190:Go.Proofs.Lays.n190 Tryz.prog Tryz.DV:={
 mixed:=by kernel_rfl
 f125:=Tryz.func133.trans (congrArg some (by kernel_rfl))
 f128:=Tryz.func171.trans (congrArg some (by kernel_rfl))
 f129:=Tryz.func172.trans (congrArg some (by kernel_rfl))
 f190:=Tryz.func92.trans (congrArg some (by kernel_rfl))
 f258:=Tryz.func132.trans (congrArg some (by kernel_rfl))
 f302:=Tryz.func163.trans (congrArg some (by kernel_rfl))
 f303:=Tryz.func164.trans (congrArg some (by kernel_rfl))
 f304:=Tryz.func165.trans (congrArg some (by kernel_rfl))
 f305:=Tryz.func166.trans (congrArg some (by kernel_rfl))
 f306:=Tryz.func167.trans (congrArg some (by kernel_rfl))
 f307:=Tryz.func168.trans (congrArg some (by kernel_rfl))
 f308:=Tryz.func155.trans (congrArg some (by kernel_rfl))
 f309:=Tryz.func169.trans (congrArg some (by kernel_rfl))
 f310:=Tryz.func170.trans (congrArg some (by kernel_rfl))
 f329:=Tryz.func201.trans (congrArg some (by kernel_rfl))
 f330:=Tryz.func202.trans (congrArg some (by kernel_rfl))
 f333:=Tryz.func200.trans (congrArg some (by kernel_rfl))
 f334:=Tryz.func203.trans (congrArg some (by kernel_rfl))
 f335:=Tryz.func204.trans (congrArg some (by kernel_rfl))
 f336:=Tryz.func197.trans (congrArg some (by kernel_rfl))
 f344:=Tryz.func227.trans (congrArg some (by kernel_rfl))
 t0:=Tryz.underlying0
 a0:=Tryz.isAgg0
 z0:=Tryz.sizeOf0
 v0:=Tryz.zeroValue0
 t3:=Tryz.underlying3
 a3:=Tryz.isAgg3
 z3:=Tryz.sizeOf3
 v3:=Tryz.zeroValue3
 t4:=Tryz.underlying4
 a4:=Tryz.isAgg4
 z4:=Tryz.sizeOf4
 v4:=Tryz.zeroValue4
 t5:=Tryz.underlying5
 a5:=Tryz.isAgg5
 z5:=Tryz.sizeOf5
 v5:=Tryz.zeroValue5
 t9:=Tryz.underlying9
 a9:=Tryz.isAgg9
 z9:=Tryz.sizeOf9
 v9:=Tryz.zeroValue9
 t31:=Tryz.underlying27
 a31:=Tryz.isAgg27
 z31:=Tryz.sizeOf27
 v31:=Tryz.zeroValue27
 t46:=Tryz.underlying164
 a46:=Tryz.isAgg164
 z46:=Tryz.sizeOf164
 v46:=Tryz.zeroValue164
 t51:=Tryz.underlying207
 a51:=Tryz.isAgg207
 z51:=Tryz.sizeOf207
 v51:=Tryz.zeroValue207
 t53:=Tryz.underlying228
 a53:=Tryz.isAgg228
 z53:=Tryz.sizeOf228
 v53:=Tryz.zeroValue228
 t131:=Tryz.underlying171
 a131:=Tryz.isAgg171
 z131:=Tryz.sizeOf171
 v131:=Tryz.zeroValue171
 t182:=Tryz.underlying220
 a182:=Tryz.isAgg220
 z182:=Tryz.sizeOf220
 v182:=Tryz.zeroValue220
 t183:=Tryz.underlying221
 a183:=Tryz.isAgg221
 z183:=Tryz.sizeOf221
 v183:=Tryz.zeroValue221
 t218:=Tryz.underlying257
 a218:=Tryz.isAgg257
 z218:=Tryz.sizeOf257
 v218:=Tryz.zeroValue257
 t222:=Tryz.underlying261
 a222:=Tryz.isAgg261
 z222:=Tryz.sizeOf261
 v222:=Tryz.zeroValue261
 t228:=Tryz.underlying278
 a228:=Tryz.isAgg278
 z228:=Tryz.sizeOf278
 v228:=Tryz.zeroValue278
 t229:=Tryz.underlying279
 a229:=Tryz.isAgg279
 z229:=Tryz.sizeOf279
 v229:=Tryz.zeroValue279 }
open Go.Sort Go.RowKit in
theorem Tryz.slices_Sort_string(blk off cap:Nat)(ss:List (List UInt8))(w:World)(hH:Holds encStr w blk off ss.toArray)(hblk:blk<w.heap.size)(hsz:ss.length<4611686018427387904) :
 Calls Tryz.prog 92 #[.slice (some ⟨blk,off,none⟩) ss.length cap] w fun e w' =>
  e = .returned (.tuple #[])/\∃n os,w'=grow (putRow encStr (Sort.ahead w n) blk off (ss.mergeSort fun x y=>decide (x<=y)).toArray) os:=Any.slices_Sort_string Tryz.lays190 blk off cap ss w hH hblk hsz
theorem Tryz.lH(p:Option Addr)(cap:Nat)(w:World) :
 Calls Tryz.prog 92 #[.slice p 0 cap] w fun e w'=>e = .returned (.tuple #[])/\w'=w:=Any.slices_Sort_string_none Tryz.lays190 p cap w
end Go.Proofs
set_option linter.unusedVariables false
set_option maxHeartbeats 4000000
set_option linter.unusedSimpArgs false
namespace Go.Proofs.YtmmmghpimdfleaaGreatDoor
namespace wH
open Go.RowKit Mem
open Go.Proofs.YtmmmghpimdfleaaGreatDoor.Own
open Go.Sort (Holds)
def zo(s:ByteArray):List UInt8:=s.data.toList
def ofL(l:List UInt8):ByteArray:=⟨l.toArray⟩
theorem AY(s:ByteArray):ofL (zo s)=s:=by unfold ofL zo;rfl
def sortB(l:List ByteArray):List ByteArray:=((l.map zo).mergeSort fun x y=>decide (x<=y)).map ofL
theorem rF(l:List ByteArray):(sortB l).length=l.length:=by
 unfold sortB;rw[List.length_map,List.length_mergeSort,List.length_map]
theorem xk(l:List ByteArray):(sortB l).Perm l:=by
 unfold sortB;have h1:=(List.mergeSort_perm (l.map zo) (fun x y=>decide (x<=y))).map ofL;rw[List.map_map]at h1;have e:(ofL ∘ zo)=id:=funext fun s=>AY s
 rw[e,List.map_id]at h1;exact h1
theorem zq{l:List ByteArray}{x:ByteArray}:x∈sortB l↔x∈l:=(xk l).mem_iff
theorem XD{a b:ByteArray}:Sp.lt a b=decide (zo a<zo b):=by
 unfold Sp.lt;rw[Sp.qB,Lib.toList_data,Lib.toList_data];rfl
/-- rising, each once -/
def yK(l:List ByteArray):Prop:=l.Pairwise fun a b=>Sp.lt a b=true
theorem JF{l:List ByteArray}(hn:l.Nodup):yK (sortB l):=by
 have h1:((l.map zo).mergeSort fun x y=>decide (x<=y)).Pairwise fun x y=>decide (x<=y)=true :=
  List.pairwise_mergeSort (fun a b c h1 h2=>by
   have h1:=of_decide_eq_true h1;have h2:=of_decide_eq_true h2;exact decide_eq_true (List.le_trans h1 h2)) (fun a b=>by
   rcases List.le_total a b with h|h
   ·simp[h]
   ·simp[h]) _
 have h2:(sortB l).Nodup:=(xk l).nodup_iff.2 hn;unfold yK;have h3:(sortB l).Pairwise fun a b=>decide (zo a<=zo b)=true:=(by unfold sortB;rw[List.pairwise_map];exact h1)
 refine(h3.and h2).imp ?_;intro a b ⟨h4,h5⟩;rw[XD,decide_eq_true_eq];have h6:=of_decide_eq_true h4;rcases Decidable.em (zo a<zo b)with h|h
 ·exact h
 ·exact absurd (List.le_antisymm h6 (List.not_lt.1 h)) (fun e=>h5 (by rw[←AY a,e,AY]))
theorem jA{l:List ByteArray}(h:yK l):l.Nodup:=h.imp fun h e=>by subst e;rw[Sp.lt_irrefl]at h;cases h
theorem Su(l:List ByteArray):l.map Value.string=(l.map zo).map encStr:=by
 rw[List.map_map];refine List.map_congr_left fun s _=>?_
 show Value.string s = .string ⟨(zo s).toArray⟩;rfl
/-- What a zb6 leaves. -/
def OT(w:World)(B:Nat)(v:Value)(l:List ByteArray)(e:Ending)(w':World):Prop :=
 e = .returned (.tuple #[])/\w'.ownsRow B 9 1 v l.length ((sortB l).map .string)/\w.grownBy w' v.ownBlock
theorem zbv(B:Nat)(v:Value)(l:List ByteArray)(w:World)(hown:w.ownsRow B 9 1 v l.length (l.map .string))(hn:l.length<4611686018427387904) :
 Calls Tryz.prog 92 #[v] w (OT w B v l):=by
 rcases dO hown with⟨rfl,h0,_⟩|⟨g,cap,cur,rfl,hB,hb,hnc,hm,hs,kR⟩
 ·refine(Tryz.lH none 0 w).mono ?_;rintro e w' ⟨rfl,rfl⟩;obtain rfl:=List.eq_nil_of_length_eq_zero h0;exact⟨rfl,by rw[show sortB [] = []from List.eq_nil_of_length_eq_zero (rF [])];exact World.ownsRow_nil _ _ _ _,⟨rfl,rfl,rfl,Nat.le_refl _,fun _ _ _=>rfl⟩⟩
 ·have hbk:w.heap[g]? = some (.cells cur 9 (0,0)):=hb;have ht:cur.toList.take (l.map zo).length=(l.map zo).map encStr:=by
   rw[←Su,List.length_map];apply List.ext_getElem?;intro j;by_cases hj:j<l.length
   ·rw[List.getElem?_take,if_pos hj,Array.getElem?_toList,kR j (by omega)]
   ·rw[List.getElem?_eq_none (by simp;omega),List.getElem?_eq_none (by simp;omega)]
  have h1:=Tryz.slices_Sort_string g 0 cap (l.map zo) w (Go.holds_of_block hbk ht) hb.lt (by simpa using hn);rw[List.length_map]at h1;refine h1.mono ?_;rintro e w' ⟨rfl,n,os,rfl⟩;refine⟨rfl,?_,Go.grownBy_sorted _⟩;have:=Go.ownsRow_sorted (n:=n) (os:=os) (ss:=l.map zo) (ts:=(l.map zo).mergeSort fun x y=>decide (x<=y)) (by rw[List.length_mergeSort]) hB hbk (by simpa using hnc) hm hs;rw[List.length_map]at this;have e2:(sortB l).map Value.string=((l.map zo).mergeSort fun x y=>decide (x<=y)).map encStr:=(by unfold sortB;rw[List.map_map];exact List.map_congr_left fun s _=>rfl);rw[e2];exact this
end wH

namespace Mp
open Go.RowKit Mem
def xm(L:List ByteArray)(k:ByteArray):Bool:=L.any fun x=>decide (x=k)
theorem jf{L:List ByteArray}{k:ByteArray}:xm L k=true↔k∈L:=by
 unfold xm;rw[List.any_eq_true];constructor
 ·rintro⟨x,hx,e⟩;rw[of_decide_eq_true e]at hx;exact hx
 ·intro h;exact⟨k,h,decide_eq_true rfl⟩
def AZ(L:List ByteArray):Fv:=fun k=>if xm L k=true then some (.int .i64 1)else none
def add(L:List ByteArray)(k:ByteArray):List ByteArray:=if xm L k=true then L else L ++ [k]
def In(w:World)(b:Nat)(L:List ByteArray):Prop:=∃D,w.ownsMap Tryz.prog 9 zg b L.length D/\View D (AZ L)/\L.Nodup/\Maps.size D=L.length
theorem vw{L:List ByteArray}{k x:ByteArray}:x∈add L k↔x∈L∨x=k:=by
 unfold add;split
 ·rename_i h;constructor
  ·exact .inl
  ·rintro(h1|rfl)
   ·exact h1
   ·exact jf.1 h
 ·simp
theorem JG{L:List ByteArray}(h:L.Nodup)(k:ByteArray):(add L k).Nodup:=by
 unfold add;split
 ·exact h
 ·rename_i hn;rw[List.nodup_append];exact⟨h,by simp,fun a ha b hb=>by simp at hb;subst hb;exact fun e=>hn (jf.2 (e▸ha))⟩
theorem tight{w:World}{b n:Nat}{D:DataW Value}(h:w.ownsMap Tryz.prog 9 zg b n D):w.ownsMap Tryz.prog 9 zg b (Maps.size D) D:=by
 obtain⟨es,clock,h0,hf,hs,rfl⟩:=h;exact⟨es,clock,h0,hf,by simp[Maps.size,Go.length_sorted],rfl⟩
theorem In.made(w:World):In (w.alloc (.map #[] 0)) w.heap.size []:=⟨_,World.ownsMap_made w _ _ _,fun k=>⟨rfl,fun v h=>by cases h⟩,List.nodup_nil,rfl⟩
theorem In.nodup{w:World}{b:Nat}{L:List ByteArray}(h:In w b L):L.Nodup:=by obtain⟨D,_,_,h3,_⟩:=h;exact h3
theorem In.lt{w:World}{b:Nat}{L:List ByteArray}(h:In w b L):b<w.heap.size:=by obtain⟨D,h1,_⟩:=h;exact h1.lt
theorem In.block{w w':World}{b:Nat}{L:List ByteArray}(h:In w b L)(hb:w'.heap[b]? = w.heap[b]?):In w' b L:=by
 obtain⟨D,⟨es,clock,h0,r⟩,h2⟩:=h;exact⟨D,⟨es,clock,hb.trans h0,r⟩,h2⟩
theorem In.below{w w':World}{b:Nat}{L:List ByteArray}(h:In w b L)(hb:Below w.heap.size w w'):In w' b L:=h.block (hb.block b h.lt)
theorem In.mp{w:World}{b:Nat}{L:List ByteArray}(h:In w b L):Mp w b L.length (AZ L):=by
 obtain⟨D,h1,h2,_,_⟩:=h;exact⟨D,h1,h2⟩
theorem zbw(w:World):(zeroValue 3).run Tryz.prog w = .ok (.int .i64 0) w:=by kernel_rfl
theorem In.look{w:World}{b:Nat}{L:List ByteArray}(h:In w b L){k:ByteArray}(hk:k.size<=maxLen) :
 (Instr.lookup 67 (.map (some b)) (.string k) false).run Tryz.prog w = .ok (.int .i64 (if xm L k=true then 1 else 0)) w:=by
 have:=h.mp.look (t:=67) (e:=3) Tryz.underlying67 (zbw w) hk;rw[this];unfold AZ;split<;>rfl
theorem In.store{w:World}{b:Nat}{L:List ByteArray}(h:In w b L)(hn:L.length<maxLen){k:ByteArray}(hk:k.size<=maxLen) :
 ∃w',(Instr.mapUpdate 67 (.map (some b)) (.string k) (.int .i64 1)).run Tryz.prog w = .ok () w'/\In w' b (add L k)/\w.grownBy w' (some b)/\w'.heap.size=w.heap.size:=by
 obtain⟨D,h1,h2,h5,h6⟩:=h;obtain⟨w',hrun,h3,h4⟩:=h1.store nY Tryz.underlying67 hn (keyS hk) (d:=.held (.int .i64 1)) (ps:=[]) (val:=.int .i64 1) rfl;have hsz:Maps.size (D.put (lk k) (.held (.int .i64 1)))=(add L k).length:=by
  rw[Maps.size_put (h1.tidy nY),(h2 k).1];unfold add AZ;by_cases e:xm L k=true
  ·simp[e,h6]
  ·simp[e,h6]
 refine⟨w',hrun,⟨_,by have:=tight h3;rw[hsz]at this;exact this,fun k'=>?_,JG h5 k,hsz⟩,h4.grown,?_⟩
 ·have him:=h1.isMap;by_cases e:k'=k
  ·subst e;have hin:xm (add L k') k'=true:=jf.2 (vw.2 (.inr rfl));refine⟨?_,fun u hu z=>?_⟩
   ·rw[Maps.has_put_same him (isLit _)];simp[AZ,hin]
   ·simp only[AZ,if_pos hin]at hu;obtain rfl:=Option.some.inj hu;exact Maps.atKey_put_same him (isLit _) _ _
  ·have hne:lk k'≠lk k:=fun h=>e (FQ h)
   have hii:xm (add L k) k'=xm L k':=(by rw[Bool.eq_iff_iff,jf,jf,vw];simp[e]);refine⟨?_,fun u hu z=>?_⟩
   ·rw[Maps.has_put_other hne,(h2 k').1];simp[AZ,hii]
   ·have hu':AZ L k'=some u:=(by rw[←hu];simp[AZ,hii]);rw[Maps.atKey_put_other hne];exact(h2 k').2 u hu' z
 ·obtain⟨es,clock,es',clock',_,rfl⟩:=h4;simp[ChangeMaps.setBlock]
end Mp

namespace St
open Go.RowKit Mem Tr
open Go.Proofs.YtmmmghpimdfleaaGreatDoor.Own
open Go.Proofs.YtmmmghpimdfleaaGreatDoor.Mp (Mp Fv Rg)
/-- What Closure gives. -/
def OU(w:World)(rs:List Rec)(roots:List ByteArray)(e:Ending)(w':World):Prop :=
 Below w.heap.size w w'/\((∃q,tY rs roots q/\aJ.has rs q=false/\e = .returned (.tuple #[.slice none 0 0,.int .i64 3])) ∨
  ∃v L,e = .returned (.tuple #[v,.int .i64 0])/\w'.ownsRow w.heap.size 9 1 v L.length (L.map .string)/\wH.yK L/\(∀p,p∈L↔tY rs roots p)/\∀p∈L,∃r∈rs,r.path=p)
theorem JH(w:World):(Instr.range 126 (.map none)).run Tryz.prog w = .ok (.pointer (some ⟨w.heap.size,0,none⟩)) (w.alloc (.mapIter none 0 #[] 0)):=by
 simp[Instr.range,run_underlying Tryz.underlying126,go_sem]
theorem OV(w:World)(r:Nat)(ty:TypeId)(h:w.heap[r]? = some (.mapIter none 0 #[] 0)):(Instr.next (.pointer (some ⟨r,0,none⟩)) false ty).run Tryz.prog w = .ok (.tuple #[.bool false]) w:=by
 have hg:(getObj r).run Tryz.prog w = .ok (.mapIter none 0 #[] 0) w:=(by simp[getObj,Sem.run,h]);unfold Instr.next;simp only[Sem.run_bind,hg,Result.andThen_ok,Sem.run_pure]
set_option maxRecDepth 20000 in
theorem wK(M F S:Nat->Prop)(s:Nat)(rs:List Rec)(rv:Value)(roots:List ByteArray)(w:World)(h:Is M F w s rs)(hn:rs.length<=1073741822)(hr:Strs S w rv roots)(hwt:roots.length+wt (fun _=>none) rs<=1099511627776)(hps:∀p,tY rs roots p->p.size<=maxLen) :
 Calls Tryz.prog 39 #[.pointer (some ⟨s,0,none⟩),rv] w (OU w rs roots):=by
 have hR:=Xx M F S s rs rv roots w h (by omega) hr hwt hps;clear h
 go_enter Tryz.func39,Tryz.ntmps39
 go_wp2_with fail;refine hR.mono ?_;rintro e w1 ⟨b1,⟨q,h1,h2,rfl⟩|⟨b,gs,rfl,hb,hmp,hnd,hrec,AU⟩⟩
 ·have HH:=yH (show tY rs roots q/\aJ.has rs q=false from⟨h1,h2⟩);have hrg:=JH w1;obtain⟨w2,hw2⟩:∃W,w1.alloc (.mapIter none 0 #[] 0)=W:=⟨_,rfl⟩;rw[hw2]at hrg;have hb2:w2.heap[w1.heap.size]? = some (.mapIter none 0 #[] 0):=(by rw[←hw2];simp only[World.alloc,Array.getElem?_push_size]);have hnx:=OV w2 w1.heap.size 0 hb2;have b2:Below w1.heap.size w1 w2:=(by rw[←hw2];exact(Below.refl _ w1).alloc (Nat.le_refl _) _);clear h1 h2 hR hw2 hb2
  go_wp2_with fail;refine wp_loop_rounds 1 ?_;rw[rounds_succ]
  go_wp2_with fail;refine(Tryz.lH none 0 w2).mono ?_;rintro e w3 ⟨rfl,rfl⟩
  go_wp2_with fail
  go_ret2;exact⟨b1.trans (b2.mono b1.size),.inl ⟨q,HH.out.1,HH.out.2,rfl⟩⟩
 ·have HH:=yH (show(paths gs).Nodup/\(∀x∈gs,x.1∈rs/\aT F w1 x.2 x.1)/\∀p,p∈paths gs↔tY rs roots p from⟨hnd,hrec,AU⟩);obtain⟨w2,cnt,hrange,rg2,hg2,hs2,hcnt⟩:=hmp.range (t:=126) Tryz.underlying126;have b2:Below w1.heap.size w1 w2:=⟨hg2.os,hg2.tape,hg2.output,hg2.size,fun k hk=>hg2.block k hk (by simp)⟩;have B2:=b1.trans (b2.mono b1.size);have iU:=yH (show gs.length<=1073741822 by
   have h1:=fU (FX HH.out.1) (m:=rs) (fun a ha=>by obtain⟨x,hx,rfl⟩:=List.mem_map.1 ha;exact(HH.out.2.1 x hx).1);rw[List.length_map]at h1;omega)
  have RG2:=yH rg2;have hbl:w.heap.size<=w1.heap.size:=b1.size;clear hnd hrec AU hmp hR hg2 hs2 hcnt rg2
  go_wp2_with fail;clear hrange
  go_loopg [8] cnt (fun k ov wr=>∃(ao:Option Addr) (n c:Nat),ov = .slice ao n c/\Hid (∃(out:List ByteArray) (left:ByteArray->Bool),out.length=n/\Rg wr b w1.heap.size gs.length (gz gs) left k/\wr.ownsRow w.heap.size 9 1 (.slice ao n c) out.length (out.map .string)/\out.Nodup/\(∀p,p∈out↔p∈paths gs/\left p=false)/\Below w.heap.size w wr))
  case atStart=>exact⟨none,0,0,rfl,yH ⟨[],_,rfl,RG2.out,World.ownsRow_nil _ _ _ _,List.nodup_nil,(fun p=>by
   constructor
   ·intro h;cases h
   ·rintro⟨h1,h2⟩;have:=nZ.2 h1;rw[this]at h2;cases h2),B2⟩⟩
  case round =>
   obtain⟨ao,n,c,rfl,HI⟩:=hrel;obtain⟨out,left,hol,rg,hown,hnd,hmem,hB⟩:=HI.out;have hnl:n<=1073741822:=(by have h1:=fU hnd (m:=paths gs) (fun p hp=>((hmem p).1 hp).1);unfold paths at h1;rw[List.length_map]at h1;have:=iU.out;omega);rcases rg.next 0 with⟨hk0,hl0,hnx⟩|⟨p,v,w7,cnt',hps1,hlp,hfp,hnx,rg7,hlt,Kv,hs7,hen⟩
   ·have HO:=yH (show wr.ownsRow w.heap.size 9 1 (.slice ao n c) out.length (out.map .string)/\out.Nodup/\(∀p,p∈out↔p∈paths gs)/\Below w.heap.size w wr from⟨hown,hnd,fun p=>by rw[hmem];simp[hl0 p],hB⟩);clear HI hown hnd hmem hB rg hl0 hk0
    go_wp2_with fail;refine(wH.zbv w.heap.size (.slice ao n c) out wr HO.out.1 (by omega)).mono ?_;rintro e w8 ⟨rfl,aV,hg8⟩;have HO8:=yH aV;have uZ:=HO.out.2.2.2.grown hg8 HO.out.2.2.2.size (fun k e=>(HO.out.1.lt k e).1);clear aV hg8 hnx
    go_wp2_with fail
    go_ret2;refine⟨uZ,.inr ⟨_,wH.sortB out,rfl,?_,wH.JF HO.out.2.1,fun p=>?_,fun p hp=>?_⟩⟩
    ·rw[wH.rF];exact HO8.out
    ·rw[wH.zq,HO.out.2.2.1];exact HH.out.2.2 p
    ·rw[wH.zq,HO.out.2.2.1]at hp;obtain⟨x,hx,rfl⟩:=List.mem_map.1 hp;exact⟨x.1,(HH.out.2.1 x hx).1,rfl⟩
   ·have hnr:(Value.slice ao n c).ownBlock≠some w1.heap.size:=rg.ql hown;have OW:=hown.kept Kv (.inr hnr);have hB7:=hB.grown Kv hB.size (fun k e=>by cases e;exact hbl);have zbx:p∈paths gs:=nZ.1 (by rw[hfp];rfl);have hpo:p ∉ out:=fun h=>by have:=((hmem p).1 h).2;rw[hlp]at this;cases this
    have bF:=yH (show Rg w7 b w1.heap.size gs.length (gz gs) (fun x=>left x&&decide (x≠p)) cnt'/\(out ++ [p]).Nodup/\(∀x,x∈out ++ [p]↔x∈paths gs/\(left x&&decide (x≠p))=false)/\Below w.heap.size w w7/\w7.ownsRow w.heap.size 9 1 (.slice ao n c) out.length (out.map .string)from
     ⟨rg7,by rw[List.nodup_append];exact⟨hnd,by simp,fun a ha b hb=>by simp at hb;subst hb;exact fun e=>hpo (e▸ha)⟩,fun x=>by
      rw[List.mem_append,hmem,List.mem_singleton];by_cases e:x=p
      ·subst e;simp[zbx]
      ·simp[e],hB7,OW⟩)
    have zdI:=hol;rw[←zdI]at OW;obtain⟨i0,hi,hz0,hz1,hz2⟩:=info_parts Make.bI;have zeQ:=hB7.size;clear HI hown hnd hmem hB rg rg7 hB7 zbx hpo Kv hs7 hlp hfp hnr;subst hol
    go_wp2_with (at_builtin;go_loud (refine wpList_append_own _ rfl _ _ 27 rfl w.heap.size 9 i0 (.string ⟨#[]⟩) 1 16 Tryz.underlying27 hi hz0 hz1 hz2 rfl (by decide) _ _ _ rfl (OW.alloc _) ⟨w7.heap.size,0,none⟩ 1 1 [.string p] rfl rfl (cell_one_new _ _ _) (by simp[Value.oneCell']) (by unfold maxLen;omega) (by omega) (by simp;omega) ?_;intro v' w8 aV hgrow hnil;obtain⟨g',cap',rfl⟩:=ownsRow_succ aV;have pg:=yH aV;have rM:=yH hgrow;clear aV hgrow hnil))
    have hmr:(Value.slice ao out.length c).ownBlock≠some b:=bF.out.1.mp.ql bF.out.2.2.2.2;have hrr:(Value.slice ao out.length c).ownBlock≠some w1.heap.size:=bF.out.1.ql bF.out.2.2.2.2;have hgl:∀k,(Value.slice ao out.length c).ownBlock=some k->w.heap.size<=k:=fun k e=>(bF.out.2.2.2.2.lt k e).1
    have hba:Below w7.heap.size w7 (w7.alloc (.cells #[.string p] 9)):=(Below.refl _ w7).alloc (Nat.le_refl _) _;have hRg:Rg w8 b w1.heap.size gs.length (gz gs) (fun x=>left x&&decide (x≠p)) cnt':=Mp.Rg.kept (Rg.below bF.out.1 hba) rM.out (Ne.symm hmr) (Ne.symm hrr);have uZ:Below w.heap.size w w8:=(bF.out.2.2.2.1.trans (hba.mono bF.out.2.2.2.1.size)).grown rM.out (by have:=hba.size;omega) hgl;have HF:=yH (show(out ++ [p]).length=out.length+1/\Rg w8 b w1.heap.size gs.length (gz gs) (fun x=>left x&&decide (x≠p)) cnt'/\w8.ownsRow w.heap.size 9 1 (.slice (some ⟨g',0,none⟩) (out.length+1) cap') (out ++ [p]).length ((out ++ [p]).map .string)/\(out ++ [p]).Nodup/\(∀x,x∈out ++ [p]↔x∈paths gs/\(left x&&decide (x≠p))=false)/\Below w.heap.size w w8 from
     ⟨by simp,hRg,by simpa using pg.out,bF.out.2.1,bF.out.2.2.1,uZ⟩)
    clear hmr hrr hgl hba hRg uZ
    go_roundg cnt'
    case measure=>exact hlt
    case rel=>exact⟨_,_,_,rfl,yH ⟨out ++ [p],_,HF.out⟩⟩
end St

namespace kU
open Go.RowKit Mem
open Go.Proofs.YtmmmghpimdfleaaGreatDoor.Mp (Mp Fv)
/-- A map of counts. -/
def Cm(w:World)(b n:Nat)(cnt:ByteArray->Int):Prop:=∃f,Mp w b n f/\∀u,(f u).getD (.int .i64 0) = .int .i64 (cnt u)
theorem Cm.lt{w:World}{b n:Nat}{cnt:ByteArray->Int}(h:Cm w b n cnt):b<w.heap.size:=by obtain⟨f,h,_⟩:=h;exact h.lt
theorem Cm.below{w w':World}{b n:Nat}{cnt:ByteArray->Int}(h:Cm w b n cnt)(hb:Below w.heap.size w w'):Cm w' b n cnt:=by
 obtain⟨f,h1,h2⟩:=h;exact⟨f,h1.below hb,h2⟩
theorem Cm.kp{M:Nat->Prop}{w w':World}{b n:Nat}{cnt:ByteArray->Int}(h:Cm w b n cnt)(hk:Kp M w w')(hM:¬M b):Cm w' b n cnt:=by
 obtain⟨f,h1,h2⟩:=h;exact⟨f,h1.kp hk hM,h2⟩
theorem Cm.made(w:World):Cm (w.alloc (.map #[] 0)) w.heap.size 0 (fun _=>0):=⟨_,Mp.made w,fun u=>rfl⟩
theorem Cm.look{w:World}{b n:Nat}{cnt:ByteArray->Int}(h:Cm w b n cnt){k:ByteArray}(hk:k.size<=maxLen):(Instr.lookup 67 (.map (some b)) (.string k) false).run Tryz.prog w = .ok (.int .i64 (cnt k)) w:=by
 obtain⟨f,h1,h2⟩:=h;rw[h1.look (t:=67) (e:=3) Tryz.underlying67 (z:=.int .i64 0) (by kernel_rfl) hk,h2]
theorem Cm.store{w:World}{b n:Nat}{cnt:ByteArray->Int}(h:Cm w b n cnt)(hn:n<maxLen){k:ByteArray}(hk:k.size<=maxLen)(c:Int) :
 ∃w',(Instr.mapUpdate 67 (.map (some b)) (.string k) (.int .i64 c)).run Tryz.prog w = .ok () w'/\Cm w' b (n+1) (fun u=>if u=k then c else cnt u)/\w.grownBy w' (some b)/\w'.heap.size=w.heap.size:=by
 obtain⟨f,h1,h2⟩:=h;obtain⟨w',hrun,h3,h4,h5⟩:=h1.store (t:=67) Tryz.underlying67 hn hk (.int .i64 c);refine⟨w',hrun,⟨_,h3,fun u=>?_⟩,h4,h5⟩;show(if u=k then some (Value.int .i64 c)else f u).getD (.int .i64 0) = .int .i64 (if u=k then c else cnt u);by_cases e:u=k
 ·rw[if_pos e,if_pos e];rfl
 ·rw[if_neg e,if_neg e];exact h2 u
end kU

namespace St
open Mem Tr

section
variable {rc st : Nat → BitVec 32}
end
end St

namespace kU
open Mem Tr St
open Classical
/-- the roots that are there -/
def there(rs:List Rec)(roots:List ByteArray):List ByteArray:=roots.filter fun q=>aJ.has rs q
def jc(rs:List Rec)(roots:List ByteArray)(p:ByteArray):Prop:=tY rs (there rs roots) p
noncomputable def gy(rs:List Rec)(roots:List ByteArray)(l:List Rec):List ByteArray:=(l.filter fun r=>decide (¬jc rs roots r.path)).map Rec.path
noncomputable def iE(rs:List Rec)(roots:List ByteArray):List ByteArray:=gy rs roots rs
theorem DW(rs:List Rec)(roots:List ByteArray)(l:List Rec)(r:Rec):gy rs roots (l ++ [r])=gy rs roots l++(if jc rs roots r.path then[]else[r.path]):=by
 unfold gy;rw[List.filter_append,List.map_append];congr 1;by_cases h:jc rs roots r.path
 ·rw[if_pos h,List.filter_cons_of_neg (by simpa using h)];rfl
 ·rw[if_neg h,List.filter_cons_of_pos (by simpa using h)];rfl
theorem wL(rs:List Rec)(l:List ByteArray)(q:ByteArray):there rs (l ++ [q])=there rs l++(if aJ.has rs q=true then[q]else[]):=by
 unfold there;rw[List.filter_append];congr 1;by_cases h:aJ.has rs q=true
 ·rw[if_pos h,List.filter_cons_of_pos h];rfl
 ·rw[if_neg h,List.filter_cons_of_neg h];rfl
theorem qM{rs:List Rec}{roots:List ByteArray}{p:ByteArray}:p∈iE rs roots↔(∃r∈rs,r.path=p)/\¬jc rs roots p:=by
 unfold iE gy;rw[List.mem_map];constructor
 ·rintro⟨r,hr,rfl⟩;rw[List.mem_filter,decide_eq_true_eq]at hr;exact⟨⟨r,hr.1,rfl⟩,hr.2⟩
 ·rintro⟨⟨r,hr,rfl⟩,h⟩;exact⟨r,by rw[List.mem_filter,decide_eq_true_eq];exact⟨hr,h⟩,rfl⟩
theorem iT{rs:List Rec}{p:ByteArray}:aJ.has rs p=true↔∃r∈rs,r.path=p:=by
 unfold aJ.has Sp.get;rw[List.find?_isSome];constructor
 ·rintro⟨x,hx,e⟩;exact⟨x,hx,of_decide_eq_true e⟩
 ·rintro⟨x,hx,e⟩;exact⟨x,hx,decide_eq_true e⟩
theorem lF{rs:List Rec}{roots:List ByteArray}(hc:∀r∈rs,∀q∈r.refs,aJ.has rs q=true){p:ByteArray}(h:jc rs roots p):aJ.has rs p=true:=by
 unfold jc at h
 induction h with
 | root hm=>unfold there at hm;exact(List.mem_filter.1 hm).2
 | step _ hr hq _=>exact hc _ hr _ hq
/-- A choice between records by a score: is a ahead of b? -/
abbrev Bst:=Rec->Rec->Bool
/-- may go: nothing fE to it -/
def free(rs:List Rec)(p:ByteArray):Bool:=aJ.has rs p&&decide (gZ rs p = [])
def jV(best:Bst)(rs:List Rec)(acc:Option Rec)(p:ByteArray):Option Rec :=
 if free rs p=true then(match Sp.get Rec.path rs p,acc with
  | some r,none=>some r
  | some r,some a=>if best r a=true then some r else some a
  | none,a=>a)else acc
def pick(best:Bst)(rs:List Rec)(D:List ByteArray):Option Rec:=D.foldl (jV best rs) none
theorem yQ(best:Bst)(rs:List Rec)(D:List ByteArray)(k:Nat)(h:k<D.length):pick best rs (D.take (k+1))=jV best rs (pick best rs (D.take k)) D[k]:=by
 unfold pick;rw[List.take_succ_eq_append_getElem h,List.foldl_append];rfl
theorem Ul{best:Bst}{rs:List Rec}(D:List ByteArray):∀acc:Option Rec,
 (D.foldl (jV best rs) acc=none->acc=none/\∀p∈D,free rs p=false) /\
 ∀r,D.foldl (jV best rs) acc=some r->acc=some r∨(r∈rs/\r.path∈D/\free rs r.path=true):=by
 induction D with
 | nil=>intro acc;exact⟨fun h=>⟨h,fun p hp=>by cases hp⟩,fun r h=>.inl h⟩
 | cons p D ih =>
  intro acc;obtain⟨h1,h2⟩:=ih (jV best rs acc p);rw[List.foldl_cons];constructor
  ·intro h;obtain⟨e,hf⟩:=h1 h;unfold jV at e;by_cases hp:free rs p=true
   ·rw[if_pos hp]at e;obtain⟨r,hr⟩:∃r,Sp.get Rec.path rs p=some r:=Option.isSome_iff_exists.1 (by
     unfold free at hp;rw[Bool.and_eq_true]at hp;exact hp.1)
    rw[hr]at e;cases acc with
    | none=>cases e
    | some a=>simp only at e;split at e<;>cases e
   ·rw[if_neg hp]at e;refine⟨e,fun x hx=>?_⟩;rcases List.mem_cons.1 hx with rfl|hx
    ·simpa using hp
    ·exact hf x hx
  ·intro r h;rcases h2 r h with e|⟨m1,m2,m3⟩
   ·unfold jV at e;by_cases hp:free rs p=true
    ·rw[if_pos hp]at e;obtain⟨x,hx⟩:∃r,Sp.get Rec.path rs p=some r:=Option.isSome_iff_exists.1 (by
      unfold free at hp;rw[Bool.and_eq_true]at hp;exact hp.1)
     have hxm:=Sp.get_some hx;have fin:x=r->acc=some r∨(r∈rs/\r.path∈p :: D/\free rs r.path=true):=(by rintro rfl;exact .inr ⟨hxm.1,by rw[hxm.2];exact List.mem_cons_self,by rw[hxm.2];exact hp⟩);rw[hx]at e;cases acc with
     | none=>exact fin (Option.some.inj e)
     | some a =>
      simp only at e;split at e
      ·exact fin (Option.some.inj e)
      ·exact .inl e
    ·rw[if_neg hp]at e;exact .inl e
   ·exact .inr ⟨m1,List.mem_cons_of_mem _ m2,m3⟩
theorem JI{best:Bst}{rs:List Rec}{D:List ByteArray}(h:pick best rs D=none):∀p∈D,free rs p=false:=((Ul D none).1 h).2
theorem iM{best:Bst}{rs:List Rec}{D:List ByteArray}{r:Rec}(h:pick best rs D=some r):r∈rs/\r.path∈D/\free rs r.path=true:=((Ul D none).2 r h).resolve_left (by simp)
theorem Il{rs:List Rec}{p q:ByteArray}:aJ.has (Sp.cut Rec.path rs p) q=true↔aJ.has rs q=true/\q≠p:=by
 rw[iT,iT];unfold Sp.cut;constructor
 ·rintro⟨r,hr,rfl⟩;rw[List.mem_filter,decide_eq_true_eq]at hr;exact⟨⟨r,hr.1,rfl⟩,hr.2⟩
 ·rintro⟨⟨r,hr,rfl⟩,h⟩;exact⟨r,by rw[List.mem_filter,decide_eq_true_eq];exact⟨hr,h⟩,rfl⟩
/-- A store without some paths. -/
def wo(rs:List Rec)(L:List ByteArray):List Rec:=rs.filter fun r=>!(L.any fun x=>decide (x=r.path))
theorem mP{rs:List Rec}{L:List ByteArray}{r:Rec}:r∈wo rs L↔r∈rs/\r.path ∉ L:=by
 unfold wo;rw[List.mem_filter,Bool.not_eq_true',List.any_eq_false];constructor
 ·rintro⟨h,hx⟩;exact⟨h,fun hm=>hx _ hm (decide_eq_true rfl)⟩
 ·rintro⟨h,hx⟩;exact⟨h,fun x hm e=>hx (by rw[←of_decide_eq_true e];exact hm)⟩
theorem XF(rs:List Rec):wo rs []=rs:=by unfold wo;rw[List.filter_eq_self];intro r _;rfl
theorem Sv(rs:List Rec)(L:List ByteArray)(p:ByteArray):Sp.cut Rec.path (wo rs L) p=wo rs (L ++ [p]):=by
 unfold Sp.cut wo;rw[List.filter_filter];refine List.filter_congr fun r _=>?_
 rw[List.any_append,List.any_cons,List.any_nil,Bool.or_false,Bool.not_or,Bool.and_comm];congr 1;rw[Bool.eq_iff_iff,decide_eq_true_eq,Bool.not_eq_true',decide_eq_false_iff_not];exact⟨fun h e=>h e.symm,fun h e=>h e.symm⟩
theorem Sz{rs:List Rec}(h:Sp.bf Rec.path rs)(L:List ByteArray):Sp.bf Rec.path (wo rs L):=List.Pairwise.filter _ h
theorem F9{rs:List Rec}{L:List ByteArray}{p:ByteArray}:aJ.has (wo rs L) p=true↔aJ.has rs p=true/\p ∉ L:=by
 rw[iT,iT];constructor
 ·rintro⟨r,hr,rfl⟩;exact⟨⟨r,(mP.1 hr).1,rfl⟩,(mP.1 hr).2⟩
 ·rintro⟨⟨r,hr,rfl⟩,h⟩;exact⟨r,mP.2 ⟨hr,h⟩,rfl⟩
theorem OX(rs:List Rec)(L:List ByteArray):(wo rs L).length<=rs.length:=List.length_filter_le _ _
/-- Where a sweep stands: the records left, the paths that went, the bytes. -/
structure At where
 rs:List Rec
 out:List ByteArray
 freed:Int
def next(best:Bst)(D:List ByteArray)(want:Int)(s:At):Option At :=
 if s.freed<want then(match pick best s.rs D with
  | none=>none
  | some r=>some ⟨Sp.cut Rec.path s.rs r.path,s.out ++ [r.path],s.freed+r.size⟩)else none
def uK(best:Bst)(D:List ByteArray)(want:Int)(s:At):Nat->Option At
 | 0=>some s
 | n+1=>(uK best D want s n).bind (next best D want)
theorem DX{best:Bst}{D:List ByteArray}{want:Int}{s:At}{n:Nat}(h:uK best D want s n=none):∀d,uK best D want s (n+d)=none
 | 0=>h
 | d+1=>by
  show(uK best D want s (n+d)).bind _=none;rw[DX h d];rfl
/-- it ends in one way only -/
theorem Io{best:Bst}{D:List ByteArray}{want:Int}{s a b:At}{n m:Nat}(h1:uK best D want s n=some a)(h2:next best D want a=none)(h3:uK best D want s m=some b)(h4:next best D want b=none):a=b:=by
 have key:∀ {n m:Nat} {a b:At},uK best D want s n=some a->next best D want a=none->uK best D want s m=some b->¬n<m:=by
  intro n m a b h1 h2 h3 hlt;have h5:uK best D want s (n+1)=none:=by
   show(uK best D want s n).bind _=none;rw[h1];exact h2
  have h6:=DX h5 (m-(n+1));rw[show n+1+(m-(n+1))=m by omega,h3]at h6;cases h6
 have e:n=m:=(by have a1:=key h1 h2 h3;have a2:=key h3 h4 h1;omega);subst e;rw[h1]at h3;exact Option.some.inj h3
def uq(rs:List Rec)(p:ByteArray):Int:=match Sp.get Rec.path rs p with
 | some r=>r.size
 | none=>0
def sizes(rs:List Rec):List ByteArray->Int
 | []=>0
 | p :: l=>uq rs p+sizes rs l
theorem Gf(rs:List Rec)(l:List ByteArray)(p:ByteArray):sizes rs (l ++ [p])=sizes rs l+uq rs p:=by
 induction l with
 | nil=>simp[sizes]
 | cons x l ih=>rw[List.cons_append,sizes,sizes,ih];omega
/-- What holds all the way. -/
structure Way(rG:List Rec)(D:List ByteArray)(want:Int)(s:At):Prop where
 left:s.rs=wo rG s.out
 outs:∀k (h:k<s.out.length),s.out[k]∈D/\free (wo rG (s.out.take k)) s.out[k]=true
 last:∀o p,s.out=o ++ [p]->s.freed-uq rG p<want
 sum:s.freed=sizes rG s.out
theorem way{best:Bst}{rG:List Rec}(hr:Sp.bf Rec.path rG){D:List ByteArray}{want:Int}:∀ {n:Nat} {s:At},uK best D want ⟨rG,[],0⟩ n=some s->Way rG D want s
 | 0,s,h=>by
  obtain rfl:=Option.some.inj h;exact⟨(XF rG).symm,fun k h=>absurd h (by simp),fun o p h=>by simp at h,rfl⟩
 | n+1,s',h=>by
  cases hs:uK best D want ⟨rG,[],0⟩ n with
  | none=>unfold uK at h;rw[hs]at h;cases h
  | some s =>
   have w:=way hr hs;unfold uK at h;rw[hs]at h;have h:next best D want s=some s':=h;unfold next at h;by_cases hf:s.freed<want
   ·rw[if_pos hf]at h;cases hp:pick best s.rs D with
    | none=>rw[hp]at h;cases h
    | some r =>
     rw[hp]at h;obtain rfl:=Option.some.inj h;obtain⟨m1,m2,m3⟩:=iM hp;have hsz:uq rG r.path=r.size:=by
      rw[w.left]at m1;unfold uq;rw[Sp.get_of_mem hr (mP.1 m1).1]
     refine⟨by show Sp.cut _ _ _=_;rw[w.left,Sv],fun k hk=>?_,fun o p e=>?_,by show s.freed+_=_;rw[Gf,←w.sum,hsz]⟩
     ·have hk:k<(s.out ++ [r.path]).length:=hk;show(s.out ++ [r.path])[k]∈D/\free (wo rG ((s.out ++ [r.path]).take k)) (s.out ++ [r.path])[k]=true;rw[List.length_append,List.length_singleton]at hk;by_cases e:k<s.out.length
      ·rw[List.getElem_append_left e,List.take_append_of_le_length (by omega)];exact w.outs k e
      ·obtain rfl:k=s.out.length:=(by omega);rw[List.getElem_append_right (by omega),List.take_left' rfl];simp only[Nat.sub_self,List.getElem_cons_zero];exact⟨m2,by rw[←w.left];exact m3⟩
     ·have e:s.out ++ [r.path]=o ++ [p]:=e;obtain⟨_,e2⟩:=List.append_inj' e rfl;obtain rfl:r.path=p:=(by simpa using e2);show s.freed+r.size-_<want;rw[hsz];omega
   ·rw[if_neg hf]at h;cases h
theorem Way.nodup{rG:List Rec}{D:List ByteArray}{want:Int}{s:At}(w:Way rG D want s):s.out.Nodup:=by
 rw[List.nodup_iff_pairwise_ne,List.pairwise_iff_getElem];intro i j hi hj hij e;have h:=(w.outs j hj).2;unfold free at h;rw[Bool.and_eq_true]at h;exact(F9.1 h.1).2 (by rw[←e];exact List.mem_take_iff_getElem.2 ⟨i,by omega,rfl⟩)
theorem Way.mem{rG:List Rec}{D:List ByteArray}{want:Int}{s:At}(w:Way rG D want s):∀p∈s.out,p∈D/\aJ.has rG p=true:=by
 intro p hp;obtain⟨k,hk,rfl⟩:=List.mem_iff_getElem.1 hp;have h:=w.outs k hk;refine⟨h.1,?_⟩;have h2:=h.2;unfold free at h2;rw[Bool.and_eq_true]at h2;exact(F9.1 h2.1).1
end kU

namespace F
open Ieee
theorem OY{m s k:Nat}(h:m<2 ^ k):m <<< s<2 ^ (k+s):=by
 rw[Nat.shiftLeft_eq,Nat.pow_add];exact Nat.mul_lt_mul_of_pos_right h (Nat.two_pow_pos _)
/-- What is kept of a significand is at most 2^53. -/
theorem OZ(neg:Bool)(n drop:Nat)(h:n / 2 ^ drop<2 ^ 53)(hd:drop<=n.log2+2):Toward.even.cut neg n drop<=2 ^ 53:=by
 unfold Toward.cut;rw[Nat.min_eq_left hd,Nat.shiftLeft_eq,Nat.one_mul];dsimp only;have hb:∀b:Bool,b.toNat<=1:=(by intro b;cases b<;>decide);have:=hb (decide (2 ^ drop<2*(n % 2 ^ drop))||2 ^ drop==2*(n % 2 ^ drop)&&n / 2 ^ drop % 2==1);omega
/-- Of a number of no zb7 size the nearest word is finite, positive, and its rung is known within bounds. -/
theorem uu(mag:Nat)(place:Int)(h0:mag≠0)(lo:-1000<=place+mag.log2)(hi:place+mag.log2<=1000) :
 ∃rung,double.nearest false mag place=rung/\2 ^ 52<=rung/\(rung:Int)<=(place+mag.log2+1024)*2 ^ 52:=by
 refine⟨_,rfl,?_⟩;have hl:double.leastPlace = -1074:=(by decide);have hi':double.infRung=2047*2 ^ 52:=(by decide);have hb:double.binade=2 ^ 52:=(by decide);have hf:double.fractionBits=52:=rfl;unfold Format.nearest;rw[if_neg h0,hl,hi',hb,hf];dsimp only;have hmax:max (place+(mag.log2:Int)-((52:Nat):Int)) (-1074)=place+mag.log2-52:=(by omega);rw[hmax];have hk:Toward.even.cut false (mag <<< (place-(place+(mag.log2:Int)-52)).toNat) (place+(mag.log2:Int)-52-place).toNat<=2 ^ 53:=by
  have h2:=Nat.lt_log2_self (n:=mag);by_cases hs:mag.log2<=52
  ·have e1:(place-(place+(mag.log2:Int)-52)).toNat=52-mag.log2:=(by omega);have e2:(place+(mag.log2:Int)-52-place).toNat=0:=(by omega);rw[e1,e2];refine OZ _ _ _ ?_ (by omega);have:=OY (s:=52-mag.log2) h2;rw[Nat.pow_zero,Nat.div_one];rw[show mag.log2+1+(52-mag.log2)=53 from by omega]at this;exact this
  ·have e1:(place-(place+(mag.log2:Int)-52)).toNat=0:=(by omega);have e2:(place+(mag.log2:Int)-52-place).toNat=mag.log2-52:=(by omega);rw[e1,e2,Nat.shiftLeft_zero];refine OZ _ _ _ ?_ (by omega);rw[Nat.div_lt_iff_lt_mul (Nat.two_pow_pos _),←Nat.pow_add];rw[show 53+(mag.log2-52)=mag.log2+1 from by omega];exact h2
 generalize Toward.even.cut false _ _=kept at hk;unfold Format.word;simp only[Bool.false_eq_true,if_false];have ht:((place+(mag.log2:Int)-52 - -1074).toNat:Int)=place+mag.log2+1022:=(by omega);generalize (place+(mag.log2:Int)-52 - -1074).toNat=t at ht;have ht1:1<=t:=(by omega);have ht2:t<=2022:=(by omega);have hc:(t*2 ^ 52+kept:Nat)<2047*2 ^ 52:=(by omega);rw[Nat.min_eq_left (by omega)];constructor<;>omega
/-- Such a word reads as a positive number with a bounded place. -/
theorem DY(rung:Nat)(e:Int)(lo:2 ^ 52<=rung)(hi:(rung:Int)<=(e+1024)*2 ^ 52)(he:e<=1000) :
 ∃m p,double.read rung = .number false m p/\m≠0/\m<2 ^ 53/\-1074<=p/\p<=e-51:=by
 have hl:double.leastPlace = -1074:=(by decide);have hi':double.infRung=2047*2 ^ 52:=(by decide);have hb:double.binade=2 ^ 52:=(by decide);have hs:double.signWeight=2 ^ 63:=(by decide);unfold Format.read;rw[hl,hi',hb,hs];have e1:rung / 2 ^ 63=0:=(by omega);have e2:rung % 2 ^ 63=rung:=(by omega);dsimp only;rw[e1,e2,if_neg (by omega),if_pos (by omega)];refine⟨_,_,rfl,?_,?_,?_,?_⟩
 ·omega
 ·omega
 ·omega
 ·omega
theorem O0:double.read 4607182418800017408 = .number false (2 ^ 52) (-52):=by decide
theorem O3{n:Nat}(h:n<2 ^ 63)(h0:n≠0):n.log2<=62:=by
 have:=(Nat.log2_lt h0).2 h;omega
/-- The float of a whole number from 0 up reads as a number that is not negative. -/
theorem qm(n:Nat)(h:n<2 ^ 63):∃m p,double.read (floatOfInt .f64 n) = .number false m p/\m<2 ^ 53/\-1074<=p/\p<=11:=by
 have hq:floatOfInt .f64 (n:Int)=double.nearest false n 0:=(by unfold floatOfInt FloatKind.nearest FloatKind.encode FloatKind.format Format.write;have:¬((n:Int)<0):=(by omega);simp[this]);rw[hq];by_cases h0:n=0
 ·subst h0;refine⟨0,-1074,by decide,by decide,by omega,by omega⟩
 ·have zeR:=O3 h h0;obtain⟨r,hr,h1,h2⟩:=uu n 0 h0 (by omega) (by omega);obtain⟨m,p,a,b,c,d,e⟩:=DY r (0+n.log2) h1 h2 (by omega);exact⟨m,p,by rw[hr];exact a,c,d,by omega⟩
/-- One more than the float of a whole number: a word that reads as a positive number. -/
theorem xn(n:Nat)(h:n<2 ^ 63):∃r m p,floatBits .add .f64 (floatOfInt .f64 n) 4607182418800017408=some r/\double.read r = .number false m p/\m≠0:=by
 obtain⟨m,p,hm,hm1,hp1,hp2⟩:=qm n h;have hadd:floatBits .add .f64 (floatOfInt .f64 n) 4607182418800017408=double.add (floatOfInt .f64 n) 4607182418800017408:=rfl;rw[hadd];unfold Format.add;rw[hm,O0];unfold Datum.sum;dsimp only;rw[Option.map_some];unfold signed;simp only[Bool.false_eq_true,if_false];have hbase:min p (-52)<=-52:=(by omega);have XG:-1074<=min p (-52):=(by omega);generalize hB:min p (-52)=base at hbase XG;have hlo:2 ^ 52 <<< (-52-base).toNat=2 ^ (-base).toNat:=(by rw[Nat.shiftLeft_eq,←Nat.pow_add];congr 1;omega);rw[hlo];have hhi:m <<< (p-base).toNat<2 ^ (64+(-base).toNat):=(by have:=OY (s:=(p-base).toNat) hm1;refine Nat.lt_of_lt_of_le this (Nat.pow_le_pow_right (by omega) (by omega)));generalize m <<< (p-base).toNat=a at hhi;generalize hc:2 ^ (-base).toNat=c at hhi;have hc0:0<c:=(by rw[←hc];exact Nat.two_pow_pos _);have hlt:a+c<2 ^ (65+(-base).toNat):=(by have e1:2 ^ (64+(-base).toNat)=2 ^ 64*c:=(by rw[Nat.pow_add,hc]);have e2:2 ^ (65+(-base).toNat)=2 ^ 65*c:=(by rw[Nat.pow_add,hc]);rw[e2];rw[e1]at hhi;omega);have hge:2 ^ (-base).toNat<=a+c:=(by rw[hc];omega);have hsum:((a:Int)+(c:Int))=((a+c:Nat):Int):=(by omega);rw[hsum];have hne:a+c≠0:=(by omega);have hl1:(-base).toNat<=(a+c).log2:=(Nat.le_log2 hne).2 hge;have hl2:(a+c).log2<65+(-base).toNat:=(Nat.log2_lt hne).2 hlt;have hn0:¬(((a+c:Nat):Int)=0):=(by omega);have hn1:¬(((a+c:Nat):Int)<0):=(by omega);rw[if_neg hn0];have:decide (((a+c:Nat):Int)<0)=false:=decide_eq_false hn1;rw[this];unfold Format.write;rw[Int.natAbs_natCast];obtain⟨r,hr,h1,h2⟩:=uu (a+c) base hne (by omega) (by omega);obtain⟨m',p',a',b',c',d',e'⟩:=DY r (base+(a+c).log2) h1 h2 (by omega);exact⟨r,m',p',congrArg some hr,a',b'⟩
/-- The quotient of both is no NaN. -/
theorem Gg(s u:Nat)(hs:s<2 ^ 63)(hu:u<2 ^ 63) :
 ∃b r,floatBits .add .f64 (floatOfInt .f64 u) 4607182418800017408=some b/\floatBits .quo .f64 (floatOfInt .f64 s) b=some r:=by
 obtain⟨b,m,p,hb,hr,h0⟩:=xn u hu;obtain⟨m1,p1,h1,_⟩:=qm s hs;refine⟨b,?_⟩;have hq:floatBits .quo .f64 (floatOfInt .f64 s) b=double.div (floatOfInt .f64 s) b:=rfl;rw[hq];unfold Format.div;rw[h1,hr];unfold Datum.quotient;dsimp only;rw[if_neg h0,Option.map_some];exact⟨_,hb,rfl⟩

/-! ### The order of the words of what is not negative is that of their numbers -/
def B:Nat:=2 ^ 52
def wv(r:Nat):Nat:=if r<B then r else(B+r % B)*2 ^ (r / B-1)
theorem Ip(r:Nat):wv r<wv (r+1):=by
 have hB:0<B:=(by decide);have hBv:B=4503599627370496:=(by decide);unfold wv;by_cases h:r<B
 ·rw[if_pos h];by_cases h2:r+1<B
  ·rw[if_pos h2];omega
  ·rw[if_neg h2];have e:r+1=B:=(by omega);rw[e,Nat.mod_self,Nat.div_self hB];simp;omega
 ·rw[if_neg h,if_neg (by omega)];have hd:0<r / B:=Nat.div_pos (by omega) hB;have hm:=Nat.mod_lt r hB;have hr:=Nat.div_add_mod r B;by_cases h2:r % B+1<B
  ·have e:r+1=B*(r / B)+(r % B+1):=(by omega);have e1:(r+1) % B=r % B+1:=(by rw[e,Nat.mul_add_mod,Nat.mod_eq_of_lt h2]);have e2:(r+1) / B=r / B:=(by rw[e,Nat.mul_add_div hB,Nat.div_eq_of_lt h2,Nat.add_zero]);rw[e1,e2];exact Nat.mul_lt_mul_of_pos_right (by omega) (Nat.two_pow_pos _)
  ·have e:r+1=B*(r / B+1):=(by rw[Nat.mul_add];omega);have e1:(r+1) % B=0:=(by rw[e];exact Nat.mul_mod_right _ _);have e2:(r+1) / B=r / B+1:=(by rw[e];exact Nat.mul_div_cancel_left _ hB);rw[e1,e2];have e3:2 ^ (r / B+1-1)=2*2 ^ (r / B-1):=(by rw[←Nat.pow_succ'];congr 1;omega);rw[e3];have:=Nat.two_pow_pos (r / B-1);have h3:(B+r % B)*2 ^ (r / B-1)<(2*B)*2 ^ (r / B-1):=Nat.mul_lt_mul_of_pos_right (by omega) this;have e4:(B+0)*(2*2 ^ (r / B-1))=(2*B)*2 ^ (r / B-1):=(by rw[Nat.add_zero,←Nat.mul_assoc,Nat.mul_comm B 2]);omega
theorem Um{x y:Nat}(h:x<y):wv x<wv y:=by
 induction y with
 | zero=>omega
 | succ y ih =>
  rcases Nat.lt_or_ge x y with h1|h1
  ·exact Nat.lt_trans (ih h1) (Ip y)
  ·obtain rfl:x=y:=(by omega);exact Ip x
theorem XH(x y:Nat):compare (wv x:Int) (wv y:Int)=compare x y:=by
 rcases Nat.lt_trichotomy x y with h|h|h
 ·rw[Nat.compare_eq_lt.2 h];have:=Um h;exact Int.compare_eq_lt.2 (by omega)
 ·subst h;rw[Nat.compare_eq_eq.2 rfl];exact Int.compare_eq_eq.2 rfl
 ·rw[Nat.compare_eq_gt.2 h];have:=Um h;exact Int.compare_eq_gt.2 (by omega)
theorem xq{r:Nat}(h:r<double.infRung):∃m k,double.read r = .number false m (-1074+(k:Nat))/\m*2 ^ k=wv r:=by
 have hi:double.infRung=2047*2 ^ 52:=(by decide);have hb:double.binade=B:=(by decide);have hs:double.signWeight=2 ^ 63:=(by decide);have hl:double.leastPlace = -1074:=(by decide);have hBv:B=4503599627370496:=(by decide);rw[hi]at h;unfold Format.read;have h1:r<2 ^ 63:=(by omega);rw[hs,Nat.div_eq_of_lt h1,Nat.mod_eq_of_lt h1,hb,hi,hl];dsimp only;by_cases hr:r<B
 ·rw[if_pos hr];refine⟨r,0,by simp,?_⟩;unfold wv;rw[if_pos hr];simp
 ·rw[if_neg hr,if_pos h];refine⟨B+r % B,r / B-1,by simp,?_⟩;unfold wv;rw[if_neg hr]
theorem xu:double.read double.infRung = .infinity false:=by decide
theorem JJ(a b:Int)(c:Nat)(hc:0<c):compare (a*c) (b*c)=compare a b:=by
 have hc':(0:Int)<c:=(by omega);rcases Int.lt_trichotomy a b with h|h|h
 ·rw[Int.compare_eq_lt.2 h];exact Int.compare_eq_lt.2 (Int.mul_lt_mul_of_pos_right h hc')
 ·subst h;rw[Int.compare_eq_eq.2 rfl,Int.compare_eq_eq.2 rfl]
 ·rw[Int.compare_eq_gt.2 h];exact Int.compare_eq_gt.2 (Int.mul_lt_mul_of_pos_right h hc')
theorem sS{x y:Nat}(hx:x<=double.infRung)(hy:y<=double.infRung):double.order x y=some (compare x y):=by
 unfold Format.order;rcases Nat.lt_or_eq_of_le hx with hx|rfl
 ·obtain⟨m,k,h1,h2⟩:=xq hx;rw[h1];rcases Nat.lt_or_eq_of_le hy with hy|rfl
  ·obtain⟨n,l,h3,h4⟩:=xq hy;rw[h3];unfold Datum.order;dsimp only;congr 1;have e0:min (-1074+(k:Int)) (-1074+(l:Int)) = -1074+(min k l:Nat):=(by omega);rw[e0];have e1:(-1074+(k:Int)-(-1074+(min k l:Nat))).toNat=k-min k l:=(by omega);have e2:(-1074+(l:Int)-(-1074+(min k l:Nat))).toNat=l-min k l:=(by omega);rw[e1,e2];unfold signed;simp only[Bool.false_eq_true,if_false];rw[←XH,←h2,←h4,←JJ _ _ (2 ^ min k l) (Nat.two_pow_pos _)];have f1:((m <<< (k-min k l):Nat):Int)*((2 ^ min k l:Nat):Int)=((m*2 ^ k:Nat):Int):=(by rw[←Int.natCast_mul,Nat.shiftLeft_eq,Nat.mul_assoc,←Nat.pow_add];congr 3;omega);have f2:((n <<< (l-min k l):Nat):Int)*((2 ^ min k l:Nat):Int)=((n*2 ^ l:Nat):Int):=(by rw[←Int.natCast_mul,Nat.shiftLeft_eq,Nat.mul_assoc,←Nat.pow_add];congr 3;omega);rw[f1,f2]
  ·rw[xu,Nat.compare_eq_lt.2 hx];rfl
 ·rw[xu];rcases Nat.lt_or_eq_of_le hy with hy|rfl
  ·obtain⟨n,l,h3,h4⟩:=xq hy;rw[h3,Nat.compare_eq_gt.2 hy];rfl
  ·rw[xu,Nat.compare_eq_eq.2 rfl];rfl
theorem SA(rung:Nat):double.word false (min rung double.infRung)<=double.infRung:=by
 unfold Format.word;simp only[Bool.false_eq_true,if_false];omega
/-- A score is a word that is not negative, and no NaN. -/
theorem O4{s u b r:Nat}(hs:s<2 ^ 63)(hu:u<2 ^ 63)(hb:floatBits .add .f64 (floatOfInt .f64 u) 4607182418800017408=some b)(hr:floatBits .quo .f64 (floatOfInt .f64 s) b=some r):r<=double.infRung:=by
 obtain⟨b',m,p,hb',hr',h0⟩:=xn u hu;rw[hb]at hb';obtain rfl:=Option.some.inj hb';obtain⟨m1,p1,h1,_⟩:=qm s hs;have hq:floatBits .quo .f64 (floatOfInt .f64 s) b=double.div (floatOfInt .f64 s) b:=rfl;rw[hq]at hr;unfold Format.div at hr;rw[h1,hr']at hr;unfold Datum.quotient at hr;dsimp only at hr;rw[if_neg h0,Option.map_some]at hr;obtain rfl:=Option.some.inj hr;unfold Format.write Format.nearest;dsimp only;split
 ·unfold Format.word;simp
 ·exact SA _
end F

namespace kU
open Go.RowKit Mem Tr St
/-- a number, what is below 0 as 0 -/
def up(a:Int):Int:=max a 0
def Comes(a0 a1:Int)(r:Nat):Prop:=∃b,floatBits .add .f64 (floatOfInt .f64 (up a1)) 4607182418800017408=some b/\floatBits .quo .f64 (floatOfInt .f64 (up a0)) b=some r
def bD(a0 a1:Int):Nat:=(floatBits .quo .f64 (floatOfInt .f64 (up a0)) ((floatBits .add .f64 (floatOfInt .f64 (up a1)) 4607182418800017408).getD 0)).getD 0
theorem O5(a:Int)(h:a<9223372036854775808):∃n:Nat,up a=n/\n<2 ^ 63:=by
 unfold up;exact⟨(max a 0).toNat,by omega,by omega⟩
theorem comes(a0 a1:Int)(h0:a0<9223372036854775808)(h1:a1<9223372036854775808):Comes a0 a1 (bD a0 a1)/\bD a0 a1<=Ieee.double.infRung:=by
 obtain⟨s,hs,hs'⟩:=O5 a0 h0;obtain⟨u,hu,hu'⟩:=O5 a1 h1;obtain⟨b,r,hb,hr⟩:=F.Gg s u hs' hu';have e:bD a0 a1=r:=(by unfold bD;rw[hs,hu,hb,Option.getD_some,hr,Option.getD_some]);rw[e];exact⟨⟨b,by rw[hu];exact hb,by rw[hs];exact hr⟩,F.O4 hs' hu' hb hr⟩
theorem O6(a0 a1:Int)(w:World)(g0:a0<9223372036854775808)(g1:a1<9223372036854775808) :
 Calls Tryz.prog 51 #[.int .i64 a0,.int .i64 a1] w fun e w'=>e = .returned (.float .f64 (bD a0 a1))/\w'=w:=by
 obtain⟨⟨b,hb,hr⟩,_⟩:=comes a0 a1 g0 g1;clear g0 g1;generalize bD a0 a1=r at *;have ha:=fun w=>run_float_arith (P:=Tryz.prog) w .add 82 .f64 _ _ _ hb
 have hq:=fun w=>run_float_arith (P:=Tryz.prog) w .quo 82 .f64 _ _ _ hr
 clear hb hr;unfold up at ha hq
 go_enter Tryz.func51,Tryz.ntmps51
 go_wp2_with fail
 go_ret;exact⟨rfl,rfl⟩
theorem XI{a b:Nat}(ha:a<=Ieee.double.infRung)(hb:b<=Ieee.double.infRung):(FloatKind.f64.format.order a b==some Ordering.lt)=decide (a<b):=by
 show(Ieee.double.order a b==some Ordering.lt)=_;rw[F.sS ha hb];rcases Nat.lt_trichotomy a b with h|h|h
 ·rw[Nat.compare_eq_lt.2 h,decide_eq_true h];rfl
 ·subst h;rw[Nat.compare_eq_eq.2 rfl,decide_eq_false (Nat.lt_irrefl _)];rfl
 ·rw[Nat.compare_eq_gt.2 h,decide_eq_false (by omega)];rfl
theorem XJ{a b:Nat}(ha:a<=Ieee.double.infRung)(hb:b<=Ieee.double.infRung):(FloatKind.f64.format.order a b==some Ordering.eq)=decide (a=b):=by
 show(Ieee.double.order a b==some Ordering.eq)=_;rw[F.sS ha hb];rcases Nat.lt_trichotomy a b with h|h|h
 ·rw[Nat.compare_eq_lt.2 h,decide_eq_false (by omega)];rfl
 ·subst h;rw[Nat.compare_eq_eq.2 rfl,decide_eq_true rfl];rfl
 ·rw[Nat.compare_eq_gt.2 h,decide_eq_false (by omega)];rfl
theorem zdJ(a:Nat)(w:World)(ha:a<=Ieee.double.infRung):Calls Tryz.prog 205 #[.float .f64 a] w fun e w'=>e = .returned (.bool false)/\w'=w:=by
 have h1:=XJ ha ha;rw[decide_eq_true rfl]at h1;have h2:(FloatKind.f64.format.order a a != some Ordering.eq)=false:=(by rw[bne,h1];rfl);clear ha
 go_enter Tryz.func205,Tryz.ntmps205
 go_wp2_with fail
 go_ret;exact⟨rfl,rfl⟩
theorem Un(a b:Nat)(w:World)(ha:a<=Ieee.double.infRung)(hb:b<=Ieee.double.infRung):Calls Tryz.prog 173 #[.float .f64 a,.float .f64 b] w fun e w'=>e = .returned (.bool (decide (a<b)))/\w'=w:=by
 have h1:=XI ha hb;have hN:=zdJ b w hb;clear ha hb;generalize decide (a<b)=B at *;cases B with
 | true =>
  go_enter Tryz.func173,Tryz.ntmps173
  go_wp2_with fail
  go_ret;exact⟨rfl,rfl⟩
 | false =>
  go_enter Tryz.func173,Tryz.ntmps173
  go_wp2_with fail;refine hN.mono ?_;rintro e w1 ⟨rfl,rfl⟩
  go_wp2_with fail
  go_ret;exact⟨rfl,rfl⟩
/-- which of two goes first -/
def ahead(pa:ByteArray)(a:Nat)(pb:ByteArray)(b:Nat):Bool:=if a=b then Sp.lt pa pb else decide (b<a)
theorem zby(pa pb:ByteArray)(sa sb:Int)(a b:Nat)(w:World)(ha:a<=Ieee.double.infRung)(hb:b<=Ieee.double.infRung) :
 Calls Tryz.prog 135 #[.agg #[.string pa,.int .i64 sa,.float .f64 a],.agg #[.string pb,.int .i64 sb,.float .f64 b]] w fun e w'=>e = .returned (.bool (ahead pa a pb b))/\Below w.heap.size w w':=by
 have h1:=fun w=>Un a b w ha hb
 have h2:=fun w=>Un b a w hb ha
 clear ha hb;unfold ahead;have hB:=(Below.refl w.heap.size w).alloc (Nat.le_refl _) (.cells #[.string pa,.int .i64 sa,.float .f64 a] 139);rcases Nat.lt_trichotomy a b with h|h|h
 ·rw[if_neg (by omega),decide_eq_false (by omega)];rw[decide_eq_true h]at h1;rw[decide_eq_false (by omega)]at h2;clear h
  go_enter Tryz.func135,Tryz.ntmps135
  go_wp2_with fail;refine(h1 _).mono ?_;rintro e w1 ⟨rfl,rfl⟩
  go_wp2_with fail;refine(h2 _).mono ?_;rintro e w1 ⟨rfl,rfl⟩
  go_wp2_with fail
  go_ret;exact⟨rfl,hB.alloc (by simp) _⟩
 ·subst h;rw[if_pos rfl];rw[decide_eq_false (Nat.lt_irrefl _)]at h1 h2;obtain⟨B,hB2⟩:∃B,Sp.lt pa pb=B:=⟨_,rfl⟩;rw[hB2];have hB3:Op.bytesLess pa.toList pb.toList=B:=hB2;clear hB2
  go_enter Tryz.func135,Tryz.ntmps135
  go_wp2_with fail;refine(h1 _).mono ?_;rintro e w1 ⟨rfl,rfl⟩
  go_wp2_with fail;refine(h2 _).mono ?_;rintro e w1 ⟨rfl,rfl⟩
  go_wp2_with fail
  go_ret;exact⟨rfl,hB.alloc (by simp) _⟩
 ·rw[if_neg (by omega),decide_eq_true h];rw[decide_eq_false (by omega)]at h1;rw[decide_eq_true h]at h2;clear h
  go_enter Tryz.func135,Tryz.ntmps135
  go_wp2_with fail;refine(h1 _).mono ?_;rintro e w1 ⟨rfl,rfl⟩
  go_wp2_with fail;refine(h2 _).mono ?_;rintro e w1 ⟨rfl,rfl⟩
  go_wp2_with fail;refine(h2 _).mono ?_;rintro e w1 ⟨rfl,rfl⟩
  go_wp2_with fail
  go_ret;exact⟨rfl,hB.alloc (by simp) _⟩
end kU

namespace kU
open Go.RowKit Mem Tr St
open Go.Proofs.YtmmmghpimdfleaaGreatDoor.Own
open Go.Proofs.YtmmmghpimdfleaaGreatDoor.Mp (In add vw xm jf)
/-- What a call gives that makes a row of texts. -/
def lD(w:World)(D:List ByteArray)(e:Ending)(w':World):Prop:=∃v,e = .returned v/\w'.ownsRow w.heap.size 9 1 v D.length (D.map .string)/\Below w.heap.size w w'
def CW(w:World)(rs:List Rec)(roots:List ByteArray)(e:Ending)(w':World):Prop:=∃L,lD w L e w'/\wH.yK L/\∀p,p∈L↔jc rs roots p
theorem xw(rs:List Rec)(roots:List ByteArray)(l:List Rec):(gy rs roots l).length<=l.length:=by
 unfold gy;rw[List.length_map];exact List.length_filter_le _ _
theorem zu(rs:List Rec)(l:List ByteArray):(there rs l).length<=l.length:=List.length_filter_le _ _
set_option maxRecDepth 20000 in
theorem zbz(M F:Nat->Prop)(s:Nat)(rs:List Rec)(rv:Value)(roots:List ByteArray)(w:World)(h:Is M F w s rs)(hn:rs.length<=1048576)(hr:Strs (fun b=>b<w.heap.size) w rv roots)(hrl:roots.length<=1048576)(hwt:tK rs<=2097152)
 (hc:∀r∈rs,∀q∈r.refs,aJ.has rs q=true) (hps:∀r∈rs,r.path.size<=4194304) :
 Calls Tryz.prog 43 #[.pointer (some ⟨s,0,none⟩),rv] w (CW w rs roots):=by
 have HIS:=yH h;have J9:=yH hr;have HC:=yH hc;have Kt:=yH (show ∀p,tY rs (there rs roots) p->p.size<=maxLen from fun p hp=>by
  obtain⟨r,h1,e⟩:=iT.1 (lF hc hp);rw[←e];have:=hps r h1;unfold maxLen;omega)
 have HWT:=yH hwt;obtain⟨m,hm⟩:∃m,roots.length=m:=⟨_,rfl⟩;have HM:=yH hm;obtain⟨ao,cap,rfl,_,_,_⟩:=hr;rw[hm]at J9 hrl;rw[hm];clear h hc hps hwt hm
 go_enter Tryz.func43,Tryz.ntmps43
 go_wp2_with fail
 go_loopw [5,7,12] (fun x5 _ i wr=>∃k:Nat,∃ao n c,k<=m/\i = .int .i64 k/\x5 = .slice ao n c/\Hid (n=(there rs (roots.take k)).length/\wr.ownsRow w.heap.size 9 1 (.slice ao n c) n ((there rs (roots.take k)).map .string))/\Below w.heap.size w wr) (fun _ _ i _=>m-(intOf i).toNat)
 case atStart=>exact⟨0,none,0,0,Nat.zero_le _,rfl,rfl,yH ⟨rfl,World.ownsRow_nil _ _ _ _⟩,Below.refl _ _⟩
 case round =>
  obtain⟨k,xJ,n5,c5,hk,rfl,rfl,HW,br⟩:=hrel;by_cases hlt:k<m
  ·obtain⟨rb,ro,wJ,nR,hcells⟩:=fP (J9.out.below br) (by rw[HM.out];omega);injection nR with ji gY jk;subst ji;clear gY jk;have hkl:k<roots.length:=(by rw[HM.out];exact hlt);have gk:=hcells k hkl;have htk:roots.take (k+1)=roots.take k ++ [roots[k]]:=List.take_succ_eq_append_getElem hkl;obtain⟨q,hq⟩:∃q,roots[k]=q:=⟨_,rfl⟩;rw[hq]at gk htk;have hsn:=wL rs (roots.take k) q;rw[←htk]at hsn;have He:=yH hsn;have hn5:n5<=1048576:=(by rw[HW.out.1];have:=zu rs (roots.take k);rw[List.length_take]at this;omega);have e0:(0:Int)<=(k:Int):=Int.natCast_nonneg _;have e1:(k:Int)<(m:Int):=(by omega);clear hcells hq htk hsn hkl
   go_wp2_with fail;refine(vT M F s rs q wr (HIS.out.below br) (by omega)).mono ?_;rintro e w2 ⟨rfl,b2⟩;have XK:=br.trans (b2.mono br.size);have hown2:=Copy.own_below HW.out.2 b2;cases hh:aJ.has rs q with
   | false =>
    have bF:=yH (show n5=(there rs (roots.take (k+1))).length/\w2.ownsRow w.heap.size 9 1 (.slice xJ n5 c5) n5 ((there rs (roots.take (k+1))).map .string)from by
     rw[He.out,hh];simp only[Bool.false_eq_true,if_false,List.append_nil];exact⟨HW.out.1,hown2⟩)
    clear HW hown2 hh
    go_wp2_with fail
    go_roundw
    case rel=>exact⟨k+1,_,_,_,by omega,by go_num,rfl,bF,XK⟩
    case measure=>simp[intOf];omega
   | true =>
    have bF:=yH (show(there rs (roots.take (k+1)))=there rs (roots.take k) ++ [q] by rw[He.out,hh];rfl);obtain⟨i0,hi,hz0,hz1,hz2⟩:=info_parts Make.bI;have hsz:=XK.size;have HOWN:=yH hown2;have ZV:=yH HW.out.1;clear HW hh
    go_wp2_with (at_builtin;go_loud (refine wpList_append_own _ rfl _ _ 27 rfl w.heap.size 9 i0 (.string ⟨#[]⟩) 1 16 Tryz.underlying27 hi hz0 hz1 hz2 rfl (by decide) _ _ _ rfl (hown2.alloc _) ⟨w2.heap.size,0,none⟩ 1 1 [.string q] rfl rfl (cell_one_new _ _ _) (by simp[Value.oneCell']) (by unfold maxLen;omega) (by omega) (by simp;omega) ?_;intro v' w8 aV hgrow hnil;obtain⟨g',cap',rfl⟩:=ownsRow_succ aV;have pg:=yH aV;have rM:=yH hgrow;clear aV hgrow hnil))
    have hba:Below w2.heap.size w2 (w2.alloc (.cells #[.string q] 9)):=(Below.refl _ w2).alloc (Nat.le_refl _) _;have uZ:Below w.heap.size w w8:=(XK.trans (hba.mono XK.size)).grown rM.out (by have:=hba.size;omega) (fun k e=>(HOWN.out.lt k e).1);have HF:=yH (show n5+1=(there rs (roots.take (k+1))).length/\w8.ownsRow w.heap.size 9 1 (.slice (some ⟨g',0,none⟩) (n5+1) cap') (n5+1) ((there rs (roots.take (k+1))).map .string)from by
     rw[bF.out,List.length_append,List.map_append,←ZV.out];exact⟨rfl,pg.out⟩)
    clear hown2
    go_roundw
    case rel=>exact⟨k+1,_,_,_,by omega,by go_num,rfl,HF,uZ⟩
    case measure=>simp[intOf];omega
  ·obtain rfl:k=m:=(by omega);have hW:=HW.out;rw[List.take_of_length_le (by rw[HM.out];exact Nat.le_refl _)]at hW;have HS:=yH (show Strs (fun b=>w.heap.size<=b) wr (.slice xJ n5 c5) (there rs roots)from by
    have h1:=hW.2;have h2:=hW.1;subst h2;exact Strs.bU h1)
   have hn5:(there rs roots).length<=1048576:=(by have:=zu rs roots;rw[HM.out]at this;omega);clear HW hW
   go_wp2_with fail;refine(wK M F _ s rs _ (there rs roots) wr (HIS.out.below br) (by omega) HS.out (by have:=HWT.out;unfold tK at this;omega) Kt.out).mono ?_;rintro e w3 ⟨b3,⟨q,h1,h2,rfl⟩|⟨v1,L,rfl,ho1,hris,hmem,GM⟩⟩
   ·have:=lF HC.out h1;rw[h2]at this;cases this
   ·have HO:=yH (show w3.ownsRow w.heap.size 9 1 v1 L.length (L.map .string)/\wH.yK L/\(∀p,p∈L↔tY rs (there rs roots) p)from⟨rD ho1 br.size,hris,hmem⟩);have Yl:=br.trans (b3.mono br.size);obtain⟨a1,c1,rfl⟩:=Tab.aO ho1;clear ho1 hris hmem GM
    go_wp2_with fail
    go_ret;exact⟨L,⟨_,rfl,HO.out.1,Yl⟩,HO.out.2.1,HO.out.2.2⟩
set_option maxRecDepth 20000 in
theorem zbA(M F:Nat->Prop)(s:Nat)(rs:List Rec)(rv:Value)(roots:List ByteArray)(w:World)(h:Is M F w s rs)(hn:rs.length<=1048576)(hr:Strs (fun b=>b<w.heap.size) w rv roots)(hrl:roots.length<=1048576)(hwt:tK rs<=2097152)
 (hc:∀r∈rs,∀q∈r.refs,aJ.has rs q=true) (hps:∀r∈rs,r.path.size<=4194304) :
 Calls Tryz.prog 45 #[.pointer (some ⟨s,0,none⟩),rv] w (lD w (iE rs roots)):=by
 have HIS:=yH h;have J9:=yH hr;have HC:=yH hc;have Kt:=yH hps;have HL:=fun w1 hb hr=>zbz M F s rs rv roots w1 (h.below hb) hn hr hrl hwt hc hps
 obtain⟨ao,cap,rfl,_,_,_⟩:=hr;obtain⟨m,hm⟩:∃m,roots.length=m:=⟨_,rfl⟩;rw[hm]at J9 HL;rw[hm];have mk:(Instr.makeMap 67 none).run Tryz.prog w = .ok (.map (some w.heap.size)) (w.alloc (.map #[] 0)):=run_makeMap _ w;obtain⟨w1,hw1⟩:∃W,w.alloc (.map #[] 0)=W:=⟨_,rfl⟩;have HIN:=yH (show In w1 w.heap.size [] by rw[←hw1];exact Mp.In.made w);have b1:Below w.heap.size w w1:=(by rw[←hw1];exact(Below.refl _ w).alloc (Nat.le_refl _) _);rw[hw1]at mk;have hlt1:w.heap.size<w1.heap.size:=HIN.out.lt;have HR1:=yH ((J9.out.below b1).sub (S':=fun b=>b<w1.heap.size) (fun b h _=>h));obtain⟨n,hnn⟩:∃n,rs.length=n:=⟨_,rfl⟩;have HN:=yH hnn;have Yf:=yH HL;rw[hnn]at hn;clear hw1 hm h hc hps hnn HL hrl hwt
 go_enter Tryz.func45,Tryz.ntmps45
 go_wp2_with fail;refine(Yf.out w1 b1 HR1.out).mono ?_;rintro e w2 ⟨L,⟨v2,rfl,ho2,b2⟩,hris,hmem⟩;have B2:=b1.trans (b2.mono b1.size);obtain⟨a2,c2,rfl⟩:=Tab.aO ho2;have zdK:=yH hmem;have hll:L.length<=n:=by
  have h1:L.length<=(rs.map Rec.path).length:=fU (wH.jA hris) (fun p hp=>by
   obtain⟨r,hr,e⟩:=iT.1 (lF HC.out ((hmem p).1 hp));exact List.mem_map.2 ⟨r,hr,e⟩)
  rw[List.length_map,HN.out]at h1;exact h1
 have Yk:=yH (show ∀p∈L,p.size<=4194304 from fun p hp=>by
  obtain⟨r,hr,e⟩:=iT.1 (lF HC.out ((hmem p).1 hp));rw[←e];exact Kt.out r hr)
 have o9:=yH ho2;have zbB:=yH (HIN.out.below b2);have hlt2:w.heap.size<w2.heap.size:=zbB.out.lt;obtain⟨n2,hn2⟩:∃n2,L.length=n2:=⟨_,rfl⟩;have oN:=yH hn2;rw[hn2]at o9 hll ⊢;clear ho2 hris hmem hn2 mk
 go_wp2_with fail
 go_loopw [7,16] (fun _ i wr=>∃k:Nat,k<=n2/\i = .int .i64 k/\Hid (∃L',In wr w.heap.size L'/\(∀p,p∈L'↔p∈L.take k)/\wr.ownsRow w1.heap.size 9 1 (.slice a2 n2 c2) n2 (L.map .string))/\Below w.heap.size w wr) (fun _ i _=>n2-(intOf i).toNat)
 case atStart=>exact⟨0,Nat.zero_le _,rfl,yH ⟨[],zbB.out,fun p=>by simp,o9.out⟩,B2⟩
 case round =>
  obtain⟨k,hk,rfl,HJ,bj⟩:=hrel;by_cases hlj:k<n2
  ·obtain⟨L',hin,hL,hown⟩:=HJ.out;have hstr:Strs (fun b=>w1.heap.size<=b) wr (.slice a2 n2 c2) L:=(by have hown':=hown;rw[←oN.out]at hown' ⊢;exact Strs.bU hown');obtain⟨rb2,ro2,zej,nR,hcells⟩:=fP hstr (by rw[oN.out];omega);injection nR with ji gY jk;subst ji;clear gY jk;have hjl:k<L.length:=(by rw[oN.out];exact hlj);have gj:=hcells k hjl;have hys:=Yk.out L[k] (List.getElem_mem _);have htk:∀x,x∈L.take (k+1)↔x∈L.take k∨x=L[k]:=fun x=>by rw[List.take_succ_eq_append_getElem hjl,List.mem_append,List.mem_singleton]
   obtain⟨y,hy⟩:∃y,L[k]=y:=⟨_,rfl⟩;rw[hy]at gj hys htk;have hlen:L'.length<=n2:=(by rw[←oN.out];exact fU hin.nodup (fun p hp=>List.mem_of_mem_take ((hL p).1 hp)));obtain⟨w7,hrun,zbC,Kv,hs7⟩:=hin.store (by unfold maxLen;omega) (k:=y) (by unfold maxLen;omega);have hnr:(Value.slice (some ⟨rb2,ro2,none⟩) n2 c2).ownBlock≠some w.heap.size:=hin.mp.ql hown;have bF:=yH (show ∃L',In w7 w.heap.size L'/\(∀p,p∈L'↔p∈L.take (k+1))/\w7.ownsRow w1.heap.size 9 1 (.slice (some ⟨rb2,ro2,none⟩) n2 c2) n2 (L.map .string)from
    ⟨_,zbC,fun p=>by rw[vw,hL,htk],hown.kept Kv (.inr hnr)⟩)
   have bj7:Below w.heap.size w w7:=bj.grown Kv bj.size (fun k e=>by cases e;exact Nat.le_refl _);have j0:(0:Int)<=(k:Int):=Int.natCast_nonneg _;have j1:(k:Int)<(n2:Int):=(by omega);clear HJ hin hL hown hstr hcells hy htk hys hlen zbC Kv hs7 hnr
   go_wp2_with fail
   go_roundw
   case rel=>exact⟨k+1,by omega,by go_num,bF,bj7⟩
   case measure=>simp[intOf];omega
  ·obtain rfl:k=n2:=(by omega);obtain⟨L',hin,hL,_⟩:=HJ.out;have zdL:=yH (show In wr w.heap.size L' from hin);have HL3:=yH (show ∀p,p∈L'↔jc rs roots p from fun p=>by
    rw[hL,List.take_of_length_le (by rw[oN.out];exact Nat.le_refl _)];exact zdK.out p)
   clear HJ hin hL
   go_wp2_with fail;refine(Fg M F s rs wr (HIS.out.below bj) (by rw[HN.out];omega)).mono ?_;rintro e w4 ⟨v4,rfl,XL,b4⟩;have hml:(rs.map fun r=>Value.string r.path)=(rs.map Rec.path).map Value.string:=(by rw[List.map_map];rfl);obtain⟨ps,hps⟩:∃ps,rs.map Rec.path=ps:=⟨_,rfl⟩;have HPT:=yH hps;have hpl:ps.length=rs.length:=(by rw[←hps,List.length_map]);have Ws:=yH hpl;rw[hml,hps,←hpl]at XL;have HS4:=yH (show Strs (fun b=>wr.heap.size<=b) w4 v4 ps from Strs.bU XL);obtain⟨a4,c4,rfl⟩:=Tab.aO XL;have B4:=bj.trans (b4.mono bj.size);have zbD:=yH (zdL.out.below b4);have hlt4:=zbD.out.lt;rw[hpl,HN.out]at HS4 ⊢;clear XL hml hps hpl hlj hk bj b4
   go_wp2_with fail;generalize wr=w9 at *
   go_loopw [8,10,28] (fun x8 _ i wr=>∃j:Nat,∃ao m c,j<=n/\i = .int .i64 j/\x8 = .slice ao m c/\Hid (m=(gy rs roots (rs.take j)).length/\wr.ownsRow w4.heap.size 9 1 (.slice ao m c) m ((gy rs roots (rs.take j)).map .string))/\Below w4.heap.size w4 wr) (fun _ _ i _=>n-(intOf i).toNat)
   case atStart=>exact⟨0,none,0,0,Nat.zero_le _,rfl,rfl,yH ⟨rfl,World.ownsRow_nil _ _ _ _⟩,Below.refl _ _⟩
   case round =>
    obtain⟨j,xJ,n5,c5,hj,rfl,rfl,HW,br⟩:=hrel;by_cases hlt:j<n
    ·obtain⟨rb,ro,wJ,nR,hcells⟩:=fP (HS4.out.below br) (by rw[Ws.out,HN.out];omega);injection nR with ji gY jk;subst ji;clear gY jk;have hjl:j<ps.length:=(by rw[Ws.out,HN.out];exact hlt);have gj:=hcells j hjl;have hjr:j<rs.length:=(by rw[HN.out];exact hlt);have hpj:ps[j]=rs[j].path:=(by have:ps[j]? = some rs[j].path:=(by rw[←HPT.out,List.getElem?_map,List.getElem?_eq_getElem hjr];rfl);rw[List.getElem?_eq_getElem hjl]at this;exact Option.some.inj this);have hqs:=Kt.out rs[j] (List.getElem_mem _);have hsn:=DW rs roots (rs.take j) rs[j];rw[←List.take_succ_eq_append_getElem hjr]at hsn;rw[hpj]at gj;obtain⟨q,hq⟩:∃q,rs[j].path=q:=⟨_,rfl⟩;rw[hq]at gj hsn hqs;have He:=yH hsn;have hlook:=(zbD.out.below br).look (k:=q) (by unfold maxLen;omega);have hn5:n5<=1048576:=(by rw[HW.out.1];have h1:=xw rs roots (rs.take j);rw[List.length_take]at h1;omega);have e0:(0:Int)<=(j:Int):=Int.natCast_nonneg _;have e1:(j:Int)<(n:Int):=(by omega);clear hcells hq hsn hpj hjl hqs;cases hh:xm L' q with
     | true =>
      rw[hh]at hlook;have bF:=yH (show n5=(gy rs roots (rs.take (j+1))).length/\wr.ownsRow w4.heap.size 9 1 (.slice xJ n5 c5) n5 ((gy rs roots (rs.take (j+1))).map .string)from by
       rw[He.out,if_pos ((HL3.out q).1 (jf.1 hh)),List.append_nil];exact HW.out)
      clear HW hh
      go_wp2_with fail
      go_roundw
      case rel=>exact⟨j+1,_,_,_,by omega,by go_num,rfl,bF,br⟩
      case measure=>simp[intOf];omega
     | false =>
      rw[hh]at hlook;have bF:=yH (show gy rs roots (rs.take (j+1))=gy rs roots (rs.take j) ++ [q] by
       rw[He.out,if_neg (fun h=>by rw[jf.2 ((HL3.out q).2 h)]at hh;cases hh)])
      obtain⟨i0,hi,hz0,hz1,hz2⟩:=info_parts Make.bI;have hsz:=br.size;have hown2:=HW.out.2;have HOWN:=yH hown2;have ZV:=yH HW.out.1;clear HW hh
      go_wp2_with (at_builtin;go_loud (refine wpList_append_own _ rfl _ _ 27 rfl w4.heap.size 9 i0 (.string ⟨#[]⟩) 1 16 Tryz.underlying27 hi hz0 hz1 hz2 rfl (by decide) _ _ _ rfl (hown2.alloc _) ⟨wr.heap.size,0,none⟩ 1 1 [.string q] rfl rfl (cell_one_new _ _ _) (by simp[Value.oneCell']) (by unfold maxLen;omega) (by omega) (by simp;omega) ?_;intro v' w8 aV hgrow hnil;obtain⟨g',cap',rfl⟩:=ownsRow_succ aV;have pg:=yH aV;have rM:=yH hgrow;clear aV hgrow hnil))
      have hba:Below wr.heap.size wr (wr.alloc (.cells #[.string q] 9)):=(Below.refl _ wr).alloc (Nat.le_refl _) _;have uZ:Below w4.heap.size w4 w8:=(br.trans (hba.mono br.size)).grown rM.out (by have:=hba.size;omega) (fun k e=>(HOWN.out.lt k e).1);have HF:=yH (show n5+1=(gy rs roots (rs.take (j+1))).length/\w8.ownsRow w4.heap.size 9 1 (.slice (some ⟨g',0,none⟩) (n5+1) cap') (n5+1) ((gy rs roots (rs.take (j+1))).map .string)from by
       rw[bF.out,List.length_append,List.map_append,←ZV.out];exact⟨rfl,pg.out⟩)
      clear hown2 hlook
      go_roundw
      case rel=>exact⟨j+1,_,_,_,by omega,by go_num,rfl,HF,uZ⟩
      case measure=>simp[intOf];omega
    ·obtain rfl:j=n:=(by omega);have hW:=HW.out;rw[List.take_of_length_le (by rw[HN.out];exact Nat.le_refl _)]at hW;have HF:=yH hW;clear HW hW
     go_wp2_with fail
     go_ret;refine⟨_,rfl,?_,B4.trans (br.mono B4.size)⟩;obtain⟨h1,h2⟩:=HF.out;subst h1;exact rD h2 B4.size
end kU

namespace Ja
open Go.RowKit Mem Tr St
open Go.Proofs.YtmmmghpimdfleaaGreatDoor.Own
open Go.Proofs.YtmmmghpimdfleaaGreatDoor.wH (yK)
def O7(out:List ByteArray)(p:ByteArray):Bool:=match out.getLast? with
 | none=>true
 | some l=>Sp.lt l p
theorem A7{out:List ByteArray}(h:yK out){p:ByteArray}:O7 out p=true↔∀o∈out,Sp.lt o p=true:=by
 rcases List.eq_nil_or_concat out with rfl|⟨o,l,rfl⟩
 ·simp[O7]
 ·unfold O7;rw[List.concat_eq_append,List.getLast?_append,List.getLast?_singleton];show Sp.lt l p=true↔_;rw[List.concat_eq_append]at h;obtain⟨_,_,h3⟩:=List.pairwise_append.1 h;constructor
  ·intro hl x hx;rcases List.mem_append.1 hx with hx|hx
   ·exact Sp.lt_trans (h3 x hx l (by simp)) hl
   ·rw[List.mem_singleton.1 hx];exact hl
  ·intro hx;exact hx l (by simp)
structure Inv(list out:List ByteArray):Prop where
 YE:yK out
 sub:∀p∈out,p∈list
 all:∀p∈list,p∈out∨∀o∈out,Sp.lt o p=true
theorem Inv.nil(list:List ByteArray):Inv list []:=⟨List.Pairwise.nil,fun p h=>(by cases h),fun p _=>.inr fun o h=>(by cases h)⟩
def Mi(list out:List ByteArray)(i:Nat)(least:ByteArray)(found:Bool):Prop :=
 (found=false->∀p∈list.take i,O7 out p=false)/\(found=true->least∈list/\O7 out least=true/\∀p∈list.take i,O7 out p=true->Sp.lt p least=false)
theorem Mi.start(list out:List ByteArray)(l:ByteArray):Mi list out 0 l false:=⟨fun _ p h=>(by simp at h),fun h=>(by cases h)⟩
theorem kT{list:List ByteArray}{i:Nat}(hi:i<list.length){p:ByteArray}:p∈list.take (i+1)↔p∈list.take i∨p=list[i]:=by
 rw[List.take_succ_eq_append_getElem hi,List.mem_append,List.mem_singleton]
theorem Mi.skip{list out:List ByteArray}{i:Nat}{least:ByteArray}{found:Bool}(h:Mi list out i least found)(hi:i<list.length)(hb:O7 out list[i]=false∨(found=true/\Sp.lt list[i] least=false)):Mi list out (i+1) least found:=by
 refine⟨fun hf p hp=>?_,fun hf=>?_⟩
 ·rcases(kT hi).1 hp with hp|rfl
  ·exact h.1 hf p hp
  ·rcases hb with hb|⟨hb,_⟩
   ·exact hb
   ·rw[hf]at hb;cases hb
 ·obtain⟨h1,h2,h3⟩:=h.2 hf;refine⟨h1,h2,fun p hp hbp=>?_⟩;rcases(kT hi).1 hp with hp|rfl
  ·exact h3 p hp hbp
  ·rcases hb with hb|⟨_,hb⟩
   ·rw[hb]at hbp;cases hbp
   ·exact hb
theorem Mi.take{list out:List ByteArray}{i:Nat}{least:ByteArray}{found:Bool}(h:Mi list out i least found)(hi:i<list.length)(hb:O7 out list[i]=true)(hl:found=false∨Sp.lt list[i] least=true):Mi list out (i+1) list[i] true:=by
 refine⟨fun hf=>(by cases hf),fun _=>⟨List.getElem_mem _,hb,fun p hp hbp=>?_⟩⟩;rcases(kT hi).1 hp with hp|rfl
 ·cases found with
  | false =>
   have:=h.1 rfl p hp;rw[this]at hbp;cases hbp
  | true =>
   obtain⟨h1,h2,h3⟩:=h.2 rfl;have h4:=h3 p hp hbp;have hl:Sp.lt list[i] least=true:=hl.resolve_left (by simp);cases hh:Sp.lt p list[i]with
   | false=>rfl
   | true=>rw[Sp.lt_trans hh hl]at h4;cases h4
 ·exact Sp.lt_irrefl _
theorem Inv.fin{list out:List ByteArray}(h:Inv list out){least:ByteArray}(hm:Mi list out list.length least false):∀p,p∈out↔p∈list:=by
 intro p;refine⟨h.sub p,fun hp=>?_⟩;rcases h.all p hp with h1|h1
 ·exact h1
 ·have:=hm.1 rfl p (by rw[List.take_length];exact hp);rw[(A7 h.YE).2 h1]at this;cases this
theorem Inv.snoc{list out:List ByteArray}(h:Inv list out){least:ByteArray}(hm:Mi list out list.length least true):Inv list (out ++ [least]):=by
 obtain⟨h1,h2,h3⟩:=hm.2 rfl;have hb:=(A7 h.YE).1 h2;refine⟨List.pairwise_append.2 ⟨h.YE,List.pairwise_singleton _ _,fun a ha b hb'=>by rw[List.mem_singleton.1 hb'];exact hb a ha⟩,fun p hp=>?_,fun p hp=>?_⟩
 ·rcases List.mem_append.1 hp with hp|hp
  ·exact h.sub p hp
  ·rw[List.mem_singleton.1 hp];exact h1
 ·rcases h.all p hp with h4|h4
  ·exact .inl (List.mem_append_left _ h4)
  ·have h5:=h3 p (by rw[List.take_length];exact hp) ((A7 h.YE).2 h4);cases hl:Sp.lt least p with
   | false =>
    refine .inl ?_;rw[Sp.EN h5 hl];simp
   | true =>
    refine .inr fun o ho=>?_
    rcases List.mem_append.1 ho with ho|ho
    ·exact h4 o ho
    ·rw[List.mem_singleton.1 ho];exact hl
theorem Uo(last p:ByteArray):(!Op.bytesLess p.toList last.toList && !p.toList==last.toList)=Sp.lt last p:=by
 cases h:Sp.lt last p with
 | true =>
  have h1:Op.bytesLess p.toList last.toList=false:=Sp.lt_asymm h;have h2:(p.toList==last.toList)=false:=(by rw[Eq.bytes_beq];exact decide_eq_false (fun e=>Sp.KZ h e.symm));rw[h1,h2];rfl
 | false =>
  cases h1:Sp.lt p last with
  | true =>
   have h1:Op.bytesLess p.toList last.toList=true:=h1;rw[h1];rfl
  | false =>
   obtain rfl:=Sp.EN h h1;simp
def lenOf:Value->Nat
 | .slice _ n _=>n
 | _=>0
set_option maxRecDepth 20000 in
theorem Aj(rv:Value)(list:List ByteArray)(w:World)(hr:Strs (fun b=>b<w.heap.size) w rv list)(hl:list.length<=1048576) :
 Calls Tryz.prog 52 #[rv] w fun e w'=>∃out,kU.lD w out e w'/\yK out/\∀p,p∈out↔p∈list:=by
 have HR:=yH hr;obtain⟨m,hm⟩:∃m,list.length=m:=⟨_,rfl⟩;have HM:=yH hm;obtain⟨ao,cap,rfl,_,_,_⟩:=hr;rw[hm]at HR hl;rw[hm];clear hm
 go_enter Tryz.func52,Tryz.ntmps52
 go_wp2_with fail
 go_loopw [3,4,5,6,7] (fun x3 _ _ _ _ wr=>∃ve n c,x3 = .slice ve n c/\n<=m/\Hid (∃out,n=out.length/\wr.ownsRow w.heap.size 9 1 (.slice ve n c) n (out.map .string)/\Inv list out)/\Below w.heap.size w wr) (fun x3 _ _ _ _ _=>m+1-lenOf x3)
 case atStart=>exact⟨none,0,0,rfl,Nat.zero_le _,yH ⟨[],rfl,World.ownsRow_nil _ _ _ _,Inv.nil list⟩,Below.refl _ _⟩
 case round =>
  obtain⟨ve,n,c,rfl,hnm,HI,br⟩:=hrel;obtain⟨out,hon,hown,hinv⟩:=HI.out;have YF:=yH hon;have HOWN:=yH hown;have XM:=yH hinv;clear HI hon hown hinv;generalize wr=w1 at *
  go_wp2_with fail
  go_loopw [4,5,6,7] (fun x4 x5 i _ wr=>∃k:Nat,∃least found,k<=m/\i = .int .i64 k/\x4 = .string least/\x5 = .bool found/\Hid (Mi list out k least found)/\Dn w1 wr) (fun _ _ i _ _=>m-(intOf i).toNat)
  case atStart=>exact⟨0,_,false,Nat.zero_le _,rfl,rfl,rfl,yH (Mi.start _ _ _),Dn.refl _⟩
  case round =>
   obtain⟨k,least,found,hk,rfl,rfl,rfl,Eo,dn⟩:=hrel;have B1:=br.trans ((dn.below:Below w1.heap.size w1 wr).mono br.size);by_cases hlt:k<m
   ·obtain⟨rb,ro,wJ,nR,hcells⟩:=fP (HR.out.below B1) (by rw[HM.out];omega);injection nR with ji gY jk;subst ji;clear gY jk;have hkl:k<list.length:=(by rw[HM.out];exact hlt);have gk:=hcells k hkl;obtain⟨p,hp⟩:∃p,list[k]=p:=⟨_,rfl⟩;rw[hp]at gk;have HP:=yH hp;have e0:(0:Int)<=(k:Int):=Int.natCast_nonneg _;have e1:(k:Int)<(m:Int):=(by omega);clear hcells hp;cases n with
    | zero =>
     have HB:=yH (show O7 out p=true by rw[List.eq_nil_of_length_eq_zero YF.out.symm];rfl);cases found with
     | false =>
      have bF:=yH (show Mi list out (k+1) p true from by
       have h:=Eo.out.take hkl (by rw[HP.out];exact HB.out) (by rw[HP.out];exact .inl rfl);rw[HP.out]at h;exact h)
      clear Eo
      go_wp2_with fail
      go_quiet (fail)
      go_wp2_with fail
      go_roundw
      case rel=>exact⟨k+1,_,_,by omega,by go_num,rfl,rfl,bF,dn.trans (Dn.drewN _ _)⟩
      case measure=>simp[intOf];omega
     | true =>
      cases hl2:Sp.lt p least with
      | true =>
       have hl3:Op.bytesLess p.toList least.toList=true:=hl2;have HL2:=yH hl2;clear hl2;have bF:=yH (show Mi list out (k+1) p true from by
        have h:=Eo.out.take hkl (by rw[HP.out];exact HB.out) (by rw[HP.out];exact .inr HL2.out);rw[HP.out]at h;exact h)
       clear Eo
       go_wp2_with fail
       go_quiet (fail)
       go_wp2_with fail
       go_roundw
       case rel=>exact⟨k+1,_,_,by omega,by go_num,rfl,rfl,bF,dn.trans (Dn.drewN _ _)⟩
       case measure=>simp[intOf];omega
      | false =>
       have hl3:Op.bytesLess p.toList least.toList=false:=hl2;have HL2:=yH hl2;clear hl2;have bF:=yH (show Mi list out (k+1) least true from Eo.out.skip hkl (by rw[HP.out];exact .inr ⟨rfl,HL2.out⟩));clear Eo
       go_wp2_with fail
       go_quiet (fail)
       go_wp2_with fail
       go_roundw
       case rel=>exact⟨k+1,_,_,by omega,by go_num,rfl,rfl,bF,dn.trans (Dn.drewN _ _)⟩
       case measure=>simp[intOf];omega
    | succ n =>
     have hne:out≠[]:=fun e=>by have:=YF.out;rw[e]at this;cases this
     obtain⟨ini,last,rfl⟩:∃ini last,out=ini ++ [last]:=⟨_,_,(List.dropLast_concat_getLast hne).symm⟩;have hli:ini.length=n:=(by have:=YF.out;simp at this;omega);obtain⟨g,c',hv⟩:=ownsRow_succ HOWN.out;cases hv
     have hcell:wr.cell? ⟨g,n,none⟩=some (.string last):=(by rw[dn.cell];exact(Ii HOWN.out).2.2);have J3:O7 (ini ++ [last]) p=Sp.lt last p:=(by unfold O7;rw[List.getLast?_append,List.getLast?_singleton];rfl);have n0:(0:Int)<=(n:Int):=Int.natCast_nonneg _;have hw:IntKind.i64.wrap (n:Int)=(n:Int):=(by rw[IntKind.wrap_i64];omega);have hz:((n:Int)+1==0)=false:=(by simp;omega);clear hne hli;cases hB:Sp.lt last p with
     | false =>
      rw[hB]at J3;have hB2:=Uo last p;rw[hB]at hB2;have HB:=yH J3;clear hB J3;have bF:=yH (show Mi list (ini ++ [last]) (k+1) least found from Eo.out.skip hkl (by rw[HP.out];exact .inl HB.out));clear Eo
      go_wp2_with fail
      go_quiet (fail)
      go_wp2_with fail
      go_roundw
      case rel=>exact⟨k+1,_,_,by omega,by go_num,rfl,rfl,bF,dn.trans (Dn.drewN _ _)⟩
      case measure=>simp[intOf];omega
     | true =>
      rw[hB]at J3;have hB2:=Uo last p;rw[hB]at hB2;have HB:=yH J3;clear hB J3;cases found with
      | false =>
       have bF:=yH (show Mi list (ini ++ [last]) (k+1) p true from by
        have h:=Eo.out.take hkl (by rw[HP.out];exact HB.out) (by rw[HP.out];exact .inl rfl);rw[HP.out]at h;exact h)
       clear Eo
       go_wp2_with fail
       go_quiet (fail)
       go_wp2_with fail
       go_roundw
       case rel=>exact⟨k+1,_,_,by omega,by go_num,rfl,rfl,bF,dn.trans (Dn.drewN _ _)⟩
       case measure=>simp[intOf];omega
      | true =>
       cases hl2:Sp.lt p least with
       | true =>
        have hl3:Op.bytesLess p.toList least.toList=true:=hl2;have HL2:=yH hl2;clear hl2;have bF:=yH (show Mi list (ini ++ [last]) (k+1) p true from by
         have h:=Eo.out.take hkl (by rw[HP.out];exact HB.out) (by rw[HP.out];exact .inr HL2.out);rw[HP.out]at h;exact h)
        clear Eo
        go_wp2_with fail
        go_quiet (fail)
        go_wp2_with fail
        go_roundw
        case rel=>exact⟨k+1,_,_,by omega,by go_num,rfl,rfl,bF,dn.trans (Dn.drewN _ _)⟩
        case measure=>simp[intOf];omega
       | false =>
        have hl3:Op.bytesLess p.toList least.toList=false:=hl2;have HL2:=yH hl2;clear hl2;have bF:=yH (show Mi list (ini ++ [last]) (k+1) least true from Eo.out.skip hkl (by rw[HP.out];exact .inr ⟨rfl,HL2.out⟩));clear Eo
        go_wp2_with fail
        go_quiet (fail)
        go_wp2_with fail
        go_roundw
        case rel=>exact⟨k+1,_,_,by omega,by go_num,rfl,rfl,bF,dn.trans (Dn.drewN _ _)⟩
        case measure=>simp[intOf];omega
   ·have hkm:m=k:=(by omega);subst hkm;have zbE:=yH (show Mi list out list.length least found by rw[HM.out];exact Eo.out);clear Eo;cases found with
    | false =>
     have HF:=yH (XM.out.fin zbE.out)
     go_wp2_with fail
     go_ret;exact⟨out,⟨_,rfl,by have h:=Tab.aN HOWN.out (Kp.kE (M:=fun _=>False) dn) (fun _ _ h=>h);have e:=YF.out;subst e;exact h,B1⟩,XM.out.YE,HF.out⟩
    | true =>
     have HI2:=yH (XM.out.snoc zbE.out);have hle:n+1<=m:=(by have h1:=fU (wH.jA HI2.out.YE) HI2.out.sub;rw[List.length_append,List.length_singleton,HM.out,←YF.out]at h1;exact h1);obtain⟨i0,hi,hz0,hz1,hz2⟩:=info_parts Make.bI;have hsz:=B1.size;have hown2:wr.ownsRow w.heap.size 9 1 (.slice ve n c) n (out.map .string):=Tab.aN HOWN.out (Kp.kE (M:=fun _=>False) dn) (fun _ _ h=>h);have o9:=yH hown2
     go_wp2_with (at_builtin;go_loud (refine wpList_append_own _ rfl _ _ 27 rfl w.heap.size 9 i0 (.string ⟨#[]⟩) 1 16 Tryz.underlying27 hi hz0 hz1 hz2 rfl (by decide) _ _ _ rfl (hown2.alloc _) ⟨wr.heap.size,0,none⟩ 1 1 [.string least] rfl rfl (cell_one_new _ _ _) (by simp[Value.oneCell']) (by unfold maxLen;omega) (by omega) (by simp;omega) ?_;intro v' w8 aV hgrow hnil;obtain⟨g',cap',rfl⟩:=ownsRow_succ aV;have pg:=yH aV;have rM:=yH hgrow;clear aV hgrow hnil))
     have hba:Below wr.heap.size wr (wr.alloc (.cells #[.string least] 9)):=(Below.refl _ wr).alloc (Nat.le_refl _) _;have uZ:Below w.heap.size w w8:=(B1.trans (hba.mono B1.size)).grown rM.out (by have:=hba.size;omega) (fun k e=>(o9.out.lt k e).1);have HF:=yH (show ∃out',n+1=out'.length/\w8.ownsRow w.heap.size 9 1 (.slice (some ⟨g',0,none⟩) (n+1) cap') (n+1) (out'.map .string)/\Inv list out' from
      ⟨out ++ [least],by rw[List.length_append,←YF.out];rfl,by rw[List.map_append];exact pg.out,HI2.out⟩)
     clear hown2
     go_roundw
     case rel=>exact⟨_,_,_,rfl,hle,HF,uZ⟩
     case measure=>simp[lenOf];omega
end Ja
end Go.Proofs.YtmmmghpimdfleaaGreatDoor
