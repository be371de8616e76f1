/-
  slices.Insert at []api.Record (39 cells an element): the texts at []string with the size (tools/zeK.py).
  slices.Delete, Clone at []string: the kit's worked walks, turned (tools/turn.py).
  slices.Insert and Clone at []string and []Record by what the rows own.
-/
import Derived.Test.YtmmmghpimdfleaaGreatDoorTk
import Derived.Test.YtmmmghpimdfleaaGreatDoorGrpK
import Derived.Test.YtmmmghpimdfleaaGreatDoorGrpA
import Derived.Shelf.RegionOpenPlain
import Derived.Deep.LoopGhost
import Derived.Deep.RegionLaw
import Derived.Sort.WalkB12
import Derived.Sort.EncStr
import Derived.Lib.SliceRun
import Derived.Lib.SlicesDelete
set_option linter.unusedVariables false
set_option maxHeartbeats 4000000
set_option linter.unusedSimpArgs false
namespace Go.Proofs.YtmmmghpimdfleaaGreatDoor
namespace Ins
open Go.RowKit Go.Lib

section
variable {P : Program}
theorem gQ(w:World)(dT sT ty elem:TypeId)(k b o dLen dCap:Nat)(a:Addr)(sLen sCap:Nat)(cs:List Value)
 (hu:P.underlying dT=some (.slice elem)) (hs:(P.info? elem).map (·.size)=some k) {r:Nat} (hr:Nat.min sLen dLen=r) (hn:cs.length=r*k)
 (hsrc:∀j v,cs[j]? = some v->w.cell? (a.add j)=some v) (hc:∀j,j<cs.length->(w.cell? ⟨b,o+j,none⟩).isSome=true) (hf:∀j,j<cs.length->w.frozen? ⟨b,o+j,none⟩=false) (h1:∀v∈cs,v.oneCell'=true) :
 (Builtin.copy_ #[dT,sT] ty #[.slice (some ⟨b,o,none⟩) dLen dCap,.slice (some a) sLen sCap]).run P w = .ok (goInt (r:Nat)) (w.setCells b o cs):=by
 subst hr;have hl:=run_loadCells_list (P:=P) w a cs hsrc;have hst:=run_storeCells_cells (P:=P) b o cs 0 w (by simpa using hc) (by simpa using hf) h1;cases hq:P.info? elem with
 | none=>simp[hq]at hs
 | some i =>
  have hi:i.size=k:=(by simpa[hq]using hs);simp[Builtin.copy_,run_underlying hu,Builtin.lenOf,Builtin.firstCells,sizeOf,typeInfo,hq,hi,←hn,hl,hst]
theorem oU(w:World){ops:Array Oper}{rest:List Oper}{o:Oper}{a:Act}{Q:Exit->Act->World->Prop}
 (hg:o.guard=none) (s x:Operand) (t tx:TypeId) (hop:o.op=Op.call { callee:=Callee.builtin Builtin.append,args:=#[s,x],argTypes:=#[t,tx] })
 (e:TypeId) (z:Value) (bytes:Nat) (ht:P.underlying t=some (.slice e)) (hinfo:(P.info? e).map (fun i=>(i.zero,i.size,i.bytes))=some (some z,39,bytes))
 (b off sLen sCap:Nat) (hs:a.eval s = .slice (some ⟨b,off,none⟩) sLen sCap) (xv:Value) (hx:a.eval x=xv) (n:Nat) (news:List Value) (hsrc:Src P 39 tx xv n news w)
 (hroom:sLen+n<=sCap) (hc:∀j,j<news.length->(w.cell? ⟨b,off+sLen*39+j,none⟩).isSome=true) (hf:∀j,j<news.length->w.frozen? ⟨b,off+sLen*39+j,none⟩=false)
 (hK:wpList P ops Q rest (a.put o.dst (.slice (some ⟨b,off,none⟩) (sLen+n) sCap)) (w.setCells b (off+sLen*39) news)) :
 wpList P ops Q (o :: rest) a w:=by
 obtain⟨i,hi,hzz⟩:=Option.map_eq_some_iff.1 hinfo;simp only[Prod.mk.injEq]at hzz;obtain⟨_,hs1,_⟩:=hzz;exact wpList_append_room_src w hg s x t tx hop e i ht hi b off sLen sCap hs xv hx n news (by rw[hs1];exact hsrc) hroom (by rw[hs1];exact hc) (by rw[hs1];exact hf) (by rw[hs1];exact hK)
end
def ah:Value:=Value.agg (([Value.string ⟨#[]⟩,.int .i64 0,.bool false,.string ⟨#[]⟩,.slice none 0 0,.slice none 0 0]++(List.replicate 32 (Value.int .u8 0) ++ [Value.int .i64 0])).toArray)
theorem AL:ah.cells.size=39:=by rfl
theorem fO:(Tryz.prog.info? 31).map (fun i=>(i.zero,i.size,i.bytes))=some (some ah,39,136):=by kernel_rfl
theorem Rz:∀w,(Go.sizeOf 31).run Tryz.prog w = .ok 39 w:=fun _=>by kernel_rfl
set_option maxRecDepth 100000 in
/-- slices.Insert at []Record: THERE IS ROOM, i < len(s): in place. -/
theorem lG(b off n c i vb voff m vc:Nat)(cs vs:List Value)(w:World)(hi:i<n)(hm:0<m)(hroom:n+m<=c)(hc63:c<=9223372036854775807)(hvb:vb≠b)
 (hcl:cs.length=n*39) (hvl:vs.length=m*39)
 (hcs:∀j v,cs[j]? = some v->w.cell? ⟨b,off+j,none⟩=some v) (hsp:∀j,j<(n+m)*39->(w.cell? ⟨b,off+j,none⟩).isSome=true) (hfz:∀j,j<(n+m)*39->w.frozen? ⟨b,off+j,none⟩=false)
 (hvs:∀j v,vs[j]? = some v->w.cell? ⟨vb,voff+j,none⟩=some v) (h1c:∀v∈cs,v.oneCell'=true) (h1v:∀v∈vs,v.oneCell'=true)
 (tA tB:TypeId) (kA kB:Nat) (hsa:w.shape? vb=some (tA,kA)) (hsb:w.shape? b=some (tB,kB)) (hkB:kB≠0) (hfa:w.frozen? ⟨vb,voff,none⟩=false) (hfe:w.frozen? ⟨vb,kA,none⟩=false) :
 Calls Tryz.prog 122 #[.slice (some ⟨b,off,none⟩) n c,.int .i64 i,.slice (some ⟨vb,voff,none⟩) m vc] w fun e w' =>
  e = .returned (.slice (some ⟨b,off,none⟩) (n+m) c)/\w'=(w.drew.setCells b (off+(i+m)*39) (cs.drop (i*39))).setCells b (off+i*39) vs:=by
 have hz1:¬((m:Int)=0):=(by omega);have hz2:¬((i:Int)=(n:Int)):=(by omega);have hsz:(Tryz.prog.info? 31).map (·.size)=some 39:=(by obtain⟨i0,hi0,h0,h1,h2⟩:=info_parts fO;rw[hi0];simp[h1]);have hov:∀lb cb,(callFunc 159 #[.slice (some ⟨vb,voff,none⟩) m vc,.slice (some ⟨b,off+(i+m)*39,none⟩) lb cb]).run Tryz.prog w = .ok (.value (.bool false)) w:=fun lb cb=>by
  rw[run_callFunc_extern Tryz.func159 (by kernel_rfl) (by kernel_rfl) (by kernel_rfl) (e:=Extern.SlicesOverlaps.overlaps #[22,22] #[4]) (by kernel_rfl),
   Lib.run_overlaps_apart w 22 4 31 Tryz.underlying22 39 Rz ⟨vb,voff,none⟩ ⟨b,off+(i+m)*39,none⟩ m vc lb cb hvb tA tB kA kB hsa hsb hkB hfa hfe]
  rfl
 have hdl:(cs.drop (i*39)).length=(n-i)*39:=(by rw[List.length_drop,hcl];omega);have rq:Tryz.prog.follows .mixedOrders=true:=(by kernel_rfl);have hw1:IntKind.i64.wrap ((i:Int)+(m:Int))=(i:Int)+(m:Int):=(by rw[IntKind.wrap_i64];omega);have hb1:(0:Int)<=(i:Int)+(m:Int):=(by omega);have hin:i<=n:=(by omega);have htn:((i:Int)+(m:Int)).toNat=i+m:=(by omega);have hb2:¬(c=i+m):=(by omega);have hb3:(i:Int)<=(n:Int)+(m:Int):=(by omega);have hb4:¬(c=i):=(by omega);have hcp1:∀ty dc sc,(Builtin.copy_ #[22,22] ty #[.slice (some ⟨b,off+(i+m)*39,none⟩) (n+m-(i+m)) dc,.slice (some ⟨b,off+i*39,none⟩) (n+m-i) sc]).run Tryz.prog w.drew = .ok (goInt (n-i:Nat)) (w.drew.setCells b (off+(i+m)*39) (cs.drop (i*39))):=fun ty dc sc =>
  gQ w.drew _ _ ty 31 39 b (off+(i+m)*39) (n+m-(i+m)) dc ⟨b,off+i*39,none⟩ (n+m-i) sc (cs.drop (i*39)) Tryz.underlying22 hsz (r:=n-i) (by simp only[Nat.min_def];split<;>omega) hdl
   (fun j v hj=>by rw[Addr.add_lit,Nat.add_assoc];exact hcs (i*39+j) v (by rwa[List.getElem?_drop]at hj))
   (fun j hj=>by rw[Nat.add_assoc];exact hsp _ (by omega)) (fun j hj=>by rw[Nat.add_assoc];exact hfz _ (by omega)) (fun v hv=>h1c v (List.mem_of_mem_drop hv))
 obtain⟨W1,hW1⟩:∃W1,W1=w.drew.setCells b (off+(i+m)*39) (cs.drop (i*39)):=⟨_,rfl⟩;have hsp1:∀k,k<(n+m)*39->(W1.cell? ⟨b,off+k,none⟩).isSome=true:=fun k hk=>by
  rw[hW1];exact isSome_setCells b _ _ _ (fun j hj=>by rw[Nat.add_assoc];exact hsp _ (by omega)) _ (hsp k hk)
 have hcp2:∀(W:World),(∀x,W.cell? x=W1.cell? x)->(∀x,W.frozen? x=W1.frozen? x)->∀ty dc,(Builtin.copy_ #[22,22] ty #[.slice (some ⟨b,off+i*39,none⟩) (n+m-i) dc,.slice (some ⟨vb,voff,none⟩) m vc]).run Tryz.prog W = .ok (goInt (m:Nat)) (W.setCells b (off+i*39) vs):=fun W hWc hWf ty dc =>
  gQ W _ _ ty 31 39 b (off+i*39) (n+m-i) dc ⟨vb,voff,none⟩ m vc vs Tryz.underlying22 hsz (r:=m) (by simp only[Nat.min_def];split<;>omega) hvl
   (fun j v hj=>by
    rw[Addr.add_lit,hWc,hW1,World.cell?_setCells_out b _ _ _ _ (fun h _=>absurd h hvb)];exact hvs j v hj)
   (fun j hj=>by rw[hWc,Nat.add_assoc];exact hsp1 _ (by omega)) (fun j hj=>by rw[hWf,hW1,World.frozen?_setCells,Nat.add_assoc];exact hfz _ (by omega)) h1v
 rw[←hW1]at hcp1
 go_enter Tryz.func122,Tryz.ntmps122
 go_wp2_with (simp only[hov])
 go_region_law_o (refine step_copy_runI rfl _ _ 22 22 rfl _ _ (by simp[Act.eval,Act.put]) (by simp[Act.eval,Act.put]) (hcp1 _ _ _) ?_)
 go_wp2_with (at_builtin;refine wpList_copy_runI _ rfl _ _ 22 22 rfl _ _ rfl rfl (hcp2 _ (fun _=>rfl) (fun _=>rfl) _ _) ?_)
 go_ret
 first|exact⟨rfl,rfl⟩|exact⟨rfl,by rw[hW1]⟩
set_option maxRecDepth 100000 in
/-- slices.Insert at []Record: AT THE END (i = len(s)), THERE IS ROOM: in place: the spare cells behind the elements take v. -/
theorem jX(b off n c vb voff m vc:Nat)(vs:List Value)(w:World)(hm:0<m)(hroom:n+m<=c)(hc63:c<=9223372036854775807)
 (hvl:vs.length=m*39) (hsp:∀j,j<m*39->(w.cell? ⟨b,off+n*39+j,none⟩).isSome=true) (hfz:∀j,j<m*39->w.frozen? ⟨b,off+n*39+j,none⟩=false)
 (hvs:∀j v,vs[j]? = some v->w.cell? ⟨vb,voff+j,none⟩=some v) (h1v:∀v∈vs,v.oneCell'=true) :
 Calls Tryz.prog 122 #[.slice (some ⟨b,off,none⟩) n c,.int .i64 n,.slice (some ⟨vb,voff,none⟩) m vc] w fun e w' =>
  e = .returned (.slice (some ⟨b,off,none⟩) (n+m) c)/\w'=w.setCells b (off+n*39) vs:=by
 have rq:Tryz.prog.follows .mixedOrders=true:=(by kernel_rfl);have hz1:¬((m:Int)=0):=(by omega);have hsrc:Src Tryz.prog 39 22 (.slice (some ⟨vb,voff,none⟩) m vc) m vs w:=Src.ofSlice w Tryz.underlying22 ⟨vb,voff,none⟩ m vc vs (by omega) (fun j u hj=>by rw[Addr.add_lit];exact hvs j u hj) h1v
 go_enter Tryz.func122,Tryz.ntmps122
 go_wp2_with (at_builtin;refine oU _ rfl _ _ 22 22 rfl 31 _ _ Tryz.underlying22 fO b off n c rfl _ rfl m vs hsrc hroom (by rw[hvl];exact hsp) (by rw[hvl];exact hfz) ?_)
 go_ret;exact⟨rfl,rfl⟩
set_option maxRecDepth 100000 in
/-- slices.Insert at []Record: AT THE END (i = len(s)), NO ROOM (the nil slice among these: 'base = none', n = c = 0): A NEW ROW: the elements, v, then zero values up to the capacity that the run-time gives; one draw. -/
theorem fF(base:Option Addr)(n c vb voff m vc:Nat)(cs vs:List Value)(w:World)(hm:0<m)(hnc:n<=c)(hroom:c<n+m)(hbig:(n+m)*136<=140737488355328)
 (hcl:cs.length=n*39) (hvl:vs.length=m*39) (hnil:base=none->n=0)
 (hcs:∀a,base=some a->∀j v,cs[j]? = some v->w.cell? (a.add j)=some v)
 (hvs:∀j v,vs[j]? = some v->w.cell? ⟨vb,voff+j,none⟩=some v) (h1v:∀v∈vs,v.oneCell'=true) :
 Calls Tryz.prog 122 #[.slice base n c,.int .i64 n,.slice (some ⟨vb,voff,none⟩) m vc] w fun e w' =>
  e = .returned (.slice (some ⟨w.heap.size,0,none⟩) (n+m) (grownCap w (n+m) c 31)) /\
  w'=w.drew.alloc (.cells ((cs++vs).toArray++Builtin.zeroCells ah.cells (grownCap w (n+m) c 31-(n+m))) 31):=by
 have rq:Tryz.prog.follows .mixedOrders=true:=(by kernel_rfl);obtain⟨i0,hi0,hz0,hzs,hzb⟩:=info_parts fO;have hz1:¬((m:Int)=0):=(by omega);have hsrc:Src Tryz.prog i0.size 22 (.slice (some ⟨vb,voff,none⟩) m vc) m vs w:=(by rw[hzs];exact Src.ofSlice w Tryz.underlying22 ⟨vb,voff,none⟩ m vc vs (by omega) (fun j u hj=>by rw[Addr.add_lit];exact hvs j u hj) h1v);have hold:(Builtin.firstCells i0.size n (.slice base n c)).run Tryz.prog w.drew = .ok cs.toArray w.drew:=by
  rw[hzs];cases base with
  | none =>
   have h0:=hnil rfl;subst h0;rw[List.length_eq_zero_iff.1 hcl];exact run_firstCells_none w.drew 39 0 0 c
  | some a=>exact run_firstCells_some w.drew 39 n a n c cs (by omega) (fun j v hj=>hcs a rfl j v hj)
 have hrun:∀ty,(Builtin.append_ #[22,22] ty #[.slice base n c,.slice (some ⟨vb,voff,none⟩) m vc]).run Tryz.prog w=_:=fun ty =>
  run_append_grow_src w 22 22 ty 31 i0 _ Tryz.underlying22 hi0 hz0 base n c cs hold _ m vs hsrc hroom (by omega) (by rw[hzb];exact growslice_fits hroom hbig)
 go_enter Tryz.func122,Tryz.ntmps122;cases base with
 | none =>
  have h0:=hnil rfl;subst h0
  go_wp2_with (at_builtin;refine Lib.wpList_append_run _ rfl _ _ _ _ rfl _ _ rfl rfl _ _ (hrun _) ?_)
  go_ret;exact⟨rfl,rfl⟩
 | some a =>
  obtain⟨ab,ao,asp⟩:=a
  go_wp2_with (at_builtin;refine Lib.wpList_append_run _ rfl _ _ _ _ rfl _ _ rfl rfl _ _ (hrun _) ?_)
  all_goals (go_ret;exact⟨rfl,rfl⟩)
set_option maxRecDepth 100000 in
/-- slices.Insert at []Record: i < len(s), NO ROOM: A NEW ROW: what stood ahead of i, v, what stood from i on, then zero values up to the capacity that the run-time gives. s's own cells are as they were. -/
theorem mO(b off n c i vb voff m vc:Nat)(cs vs:List Value)(w:World)(hi:i<n)(hm:0<m)(hnc:n<=c)(hroom:c<n+m)(hbig:(n+m)*136<=140737488355328)
 (hcl:cs.length=n*39) (hvl:vs.length=m*39)
 (hcs:∀j v,cs[j]? = some v->w.cell? ⟨b,off+j,none⟩=some v)
 (hvs:∀j v,vs[j]? = some v->w.cell? ⟨vb,voff+j,none⟩=some v) (h1c:∀v∈cs,v.oneCell'=true) (h1v:∀v∈vs,v.oneCell'=true) :
 Calls Tryz.prog 122 #[.slice (some ⟨b,off,none⟩) n c,.int .i64 i,.slice (some ⟨vb,voff,none⟩) m vc] w fun e w' =>
  e = .returned (.slice (some ⟨w.heap.size,0,none⟩) (n+m) (grownCap w (n+m) c 31)) /\
  w'=(((w.alloc (.cells ((cs.take (i*39)).toArray++Builtin.zeroCells ah.cells (n+m-i)++Builtin.zeroCells ah.cells (grownCap w (n+m) c 31-(n+m))) 31)).drew.setCells w.heap.size (i*39) vs).drew).setCells w.heap.size ((i+m)*39) (cs.drop (i*39)):=by
 have rq:Tryz.prog.follows .mixedOrders=true:=(by kernel_rfl);obtain⟨i0,hi0,hz0,hzs,hzb⟩:=info_parts fO;have hz1:¬((m:Int)=0):=(by omega);have hz2:¬((i:Int)=(n:Int)):=(by omega);have hz3:(c:Int)<(n:Int)+(m:Int):=(by omega);have hsz:(Tryz.prog.info? 31).map (·.size)=some 39:=(by rw[hi0];simp[hzs]);have hbw:b<w.heap.size:=block_lt_of_cell (hcs 0 _ (List.getElem?_eq_getElem (by omega)));have hvw:vb<w.heap.size:=block_lt_of_cell (hvs 0 _ (List.getElem?_eq_getElem (by omega)));have hkk:(n:Int)+(m:Int)-(i:Int)=((n+m-i:Nat):Int):=(by omega);have hik:i+(n+m-i)=n+m:=(by omega);have hold:(Builtin.firstCells i0.size i (.slice (some ⟨b,off,none⟩) i c)).run Tryz.prog w.drew = .ok (cs.take (i*39)).toArray w.drew:=by
  rw[hzs];exact run_firstCells_some w.drew 39 i ⟨b,off,none⟩ i c (cs.take (i*39)) (by rw[List.length_take];omega) (fun j v hj=>by
   rw[Addr.add_lit];rw[List.getElem?_take]at hj;split at hj
   ·exact hcs j v hj
   ·cases hj)
 have hrz:∀ty,(Builtin.append_ #[22,3] ty #[.slice (some ⟨b,off,none⟩) i c,.int .i64 ((n:Int)+(m:Int)-(i:Int))]).run Tryz.prog w =
  .ok (.slice (some ⟨w.heap.size,0,none⟩) (n+m) (grownCap w (n+m) c 31)) (w.drew.alloc (.cells ((cs.take (i*39)).toArray++Builtin.zeroCells ah.cells (n+m-i)++Builtin.zeroCells ah.cells (grownCap w (n+m) c 31-(n+m))) 31)):=fun ty=>by
  have h:=Lib.run_append_grow_zeros w 22 3 ty 31 i0 _ .i64 .i64 Tryz.underlying22 Tryz.underlying3 hi0 hz0 (some ⟨b,off,none⟩) i c (cs.take (i*39)) hold (n+m-i) (by omega) (by omega) (by omega) (by omega) (by rw[hzb];omega) (by rw[hzb,hik];exact growslice_fits hroom hbig);rw[hik]at h;rw[hkk];exact h
 obtain⟨G,hG⟩:∃G,G=grownCap w (n+m) c 31:=⟨_,rfl⟩;obtain⟨ROW,hROW⟩:∃ROW:Array Value,ROW=(cs.take (i*39)).toArray++Builtin.zeroCells ah.cells (n+m-i)++Builtin.zeroCells ah.cells (G-(n+m)):=⟨_,rfl⟩;rw[←hG]at hrz ⊢;rw[←hROW]at hrz ⊢;have hRl:(n+m)*39<=ROW.size:=(by rw[hROW];simp only[Array.size_append,List.size_toArray,size_zeroCells,AL,List.length_take,hcl];omega);obtain⟨W1,hW1⟩:∃W1,W1=w.drew.alloc (.cells ROW 31):=⟨_,rfl⟩;rw[←hW1]at hrz;have hN:∀j,j<(n+m)*39->(W1.cell? ⟨w.heap.size,j,none⟩).isSome=true:=fun j hj=>by
  rw[hW1,World.cell?_alloc_at (w:=w.drew) ROW _ w.heap.size j rfl,Array.getElem?_eq_getElem (by omega)];rfl
 have hNf:∀j,W1.frozen? ⟨w.heap.size,j,none⟩=false:=fun j=>by rw[hW1];exact World.frozen?_alloc_at (w:=w.drew) ROW _ w.heap.size j rfl
 have hOb:∀j v,w.cell? ⟨b,j,none⟩=some v->W1.cell? ⟨b,j,none⟩=some v:=fun j v h=>by rw[hW1,World.cell?_alloc_past (w:=w.drew) _ b j hbw];exact h
 have hOv:∀j v,w.cell? ⟨vb,j,none⟩=some v->W1.cell? ⟨vb,j,none⟩=some v:=fun j v h=>by rw[hW1,World.cell?_alloc_past (w:=w.drew) _ vb j hvw];exact h
 have hcpA:∀(W:World),(∀x,W.cell? x=W1.cell? x)->(∀x,W.frozen? x=W1.frozen? x)->∀ty dc,(Builtin.copy_ #[22,22] ty #[.slice (some ⟨w.heap.size,i*39,none⟩) (n+m-i) dc,.slice (some ⟨vb,voff,none⟩) m vc]).run Tryz.prog W = .ok (goInt (m:Nat)) (W.setCells w.heap.size (i*39) vs):=fun W hWc hWf ty dc =>
  gQ W _ _ ty 31 39 w.heap.size (i*39) (n+m-i) dc ⟨vb,voff,none⟩ m vc vs Tryz.underlying22 hsz (r:=m) (by simp only[Nat.min_def];split<;>omega) hvl
   (fun j v hj=>by rw[Addr.add_lit,hWc];exact hOv _ v (hvs j v hj))
   (fun j hj=>by rw[hWc];exact hN _ (by omega)) (fun j hj=>by rw[hWf];exact hNf _) h1v
 have hGn:n+m<=G:=(by rw[hG];exact grownCap_ge w _ _ _);have hG63:G<=9223372036854775807:=(by have:=grownCap_le_maxLen w (n+m) c 31 (by unfold maxLen;omega);rw[←hG]at this;unfold maxLen at this;omega);have hGi:¬(G=i):=(by omega);have hGim:¬(G=i+m):=(by omega);have hci:¬(c=i):=(by omega);have hbN:b≠w.heap.size:=(by omega);have hdl:(cs.drop (i*39)).length=(n-i)*39:=(by rw[List.length_drop,hcl];omega);have hcpB:∀(W:World),(∀x,W.cell? x=(W1.setCells w.heap.size (i*39) vs).cell? x)->(∀x,W.frozen? x=(W1.setCells w.heap.size (i*39) vs).frozen? x)->∀ty dc sc,(Builtin.copy_ #[22,22] ty #[.slice (some ⟨w.heap.size,(i+m)*39,none⟩) (n+m-(i+m)) dc,.slice (some ⟨b,off+i*39,none⟩) (n-i) sc]).run Tryz.prog W = .ok (goInt (n-i:Nat)) (W.setCells w.heap.size ((i+m)*39) (cs.drop (i*39))):=fun W hWc hWf ty dc sc =>
  gQ W _ _ ty 31 39 w.heap.size ((i+m)*39) (n+m-(i+m)) dc ⟨b,off+i*39,none⟩ (n-i) sc (cs.drop (i*39)) Tryz.underlying22 hsz (r:=n-i) (by simp only[Nat.min_def];split<;>omega) hdl
   (fun j v hj=>by
    rw[Addr.add_lit,hWc,World.cell?_setCells_out _ _ _ _ _ (fun h _=>absurd h hbN),Nat.add_assoc];exact hOb _ v (hcs (i*39+j) v (by rwa[List.getElem?_drop]at hj)))
   (fun j hj=>by rw[hWc];exact isSome_setCells _ _ _ _ (fun t ht=>hN _ (by omega)) _ (hN _ (by omega)))
   (fun j hj=>by rw[hWf,World.frozen?_setCells];exact hNf _) (fun v hv=>h1c v (List.mem_of_mem_drop hv))
 subst hW1;have hE1:∀x,((w.alloc (.cells ROW 31)).drew).cell? x=(w.drew.alloc (.cells ROW 31)).cell? x:=fun x=>rfl
 have hE2:∀x,((w.alloc (.cells ROW 31)).drew).frozen? x=(w.drew.alloc (.cells ROW 31)).frozen? x:=fun x=>rfl
 have hF1:∀x,(((w.alloc (.cells ROW 31)).drew.setCells w.heap.size (i*39) vs).drew).cell? x=((w.drew.alloc (.cells ROW 31)).setCells w.heap.size (i*39) vs).cell? x:=fun x=>rfl
 have hF2:∀x,(((w.alloc (.cells ROW 31)).drew.setCells w.heap.size (i*39) vs).drew).frozen? x=((w.drew.alloc (.cells ROW 31)).setCells w.heap.size (i*39) vs).frozen? x:=fun x=>rfl
 have hw1:IntKind.i64.wrap ((i:Int)+(m:Int))=(i:Int)+(m:Int):=(by rw[IntKind.wrap_i64];omega);have hb1:(0:Int)<=(i:Int)+(m:Int):=(by omega);have hin:i<=n:=(by omega);have htn:((i:Int)+(m:Int)).toNat=i+m:=(by omega);have hb3:(i:Int)<=(n:Int):=(by omega);clear hkk hik hold hROW hG hRl
 go_enter Tryz.func122,Tryz.ntmps122
 go_wp2_with (first
  | (at_builtin;refine Lib.wpList_append_run _ rfl _ _ _ _ rfl _ _ rfl rfl _ _ (hrz _) ?_)
  | (at_builtin;refine wpList_copy_runI _ rfl _ _ 22 22 rfl _ _ rfl rfl (hcpA _ hE1 hE2 _ _) ?_)
  | (at_builtin;refine wpList_copy_runI _ rfl _ _ 22 22 rfl _ _ rfl rfl (hcpB _ (fun _=>rfl) (fun _=>rfl) _ _ _) ?_))
 go_region_law_o (refine step_copy_runI rfl _ _ 22 22 rfl (.slice (some ⟨w.heap.size,(i+m)*39,none⟩) (n+m-(i+m)) (G-(i+m))) (.slice (some ⟨b,off+i*39,none⟩) (n-i) (c-i)) (by simp[Act.eval,Act.put]) (by simp[Act.eval,Act.put]) (hcpB _ hF1 hF2 3 (G-(i+m)) (c-i)) ?_)
 go_wp2
 go_ret;exact⟨rfl,rfl⟩
end Ins

namespace Ins
open Go.RowKit Go.Lib Go.Sort
theorem RD:∀w,(zeroValue 9).run Tryz.prog w = .ok (Value.string { data:=#[] }) w:=fun _=>by kernel_rfl
set_option maxRecDepth 1000000 in
/-- slices.Delete at []string, over an array. -/
theorem slices_Delete_string_arr(blk off cap i j:Nat)(d:Array (List UInt8))(w:World)(hH:Holds encStr w blk off d)(hcap:d.size<=cap)(hm:cap<=9223372036854775807)(hij:i<=j)(hj:j<=d.size) :
 Calls Tryz.prog 123 #[.slice (some ⟨blk,off,none⟩) d.size cap,.int .i64 i,.int .i64 j] w fun e w'=>e = .returned (.slice (some ⟨blk,off,none⟩) (d.size-(j-i)) cap)/\∃q,w'=putRow encStr (Sort.ahead w q) blk off (d.toList.take i++d.toList.drop j++List.replicate (j-i) []).toArray:=by
 have rq:Tryz.prog.follows .mixedOrders=true:=(by kernel_rfl);have t_9:=Tryz.underlying9;have xX:=Tryz.underlying27;obtain⟨i0,hi0,hz0,hz1,hz2⟩:=info_parts Make.bI;by_cases heq:i=j
 ·subst heq;have h0:Calls Tryz.prog 123 #[.slice (some ⟨blk,off,none⟩) d.size cap,.int .i64 i,.int .i64 i] w fun e w'=>e = .returned (.slice (some ⟨blk,off,none⟩) d.size cap)/\w'=w:=by
   clear hH
   go_enter Tryz.func123,Tryz.ntmps123
   go_wp2
   all_goals (go_ret;exact⟨rfl,rfl⟩)
  refine h0.mono ?_;rintro e w' ⟨rfl,rfl⟩;have e:(d.toList.take i++d.toList.drop i++List.replicate (i-i) []).toArray=d:=(by simp);refine⟨by rw[Nat.sub_self,Nat.sub_zero],0,?_⟩;rw[e];exact(putRow_self encStr (Sort.ahead w' 0) blk off d hH).symm
 ·have hlt:i<j:=(by omega)
  -- the cells that are moved to the left
  obtain⟨news,hnews⟩:∃news,news=(d.toList.drop j).map encStr:=⟨_,rfl⟩;have hlen:news.length=d.size-j:=(by rw[hnews];simp);have hget:∀t,t<d.size-j->news[t]? = some (encStr d[j+t]!):=(by intro t ht;rw[hnews,List.getElem?_map,List.getElem?_drop,Array.getElem?_toList,getElem!_pos d (j+t) (by omega),Array.getElem?_eq_getElem (by omega)];rfl);obtain⟨A,hA,hsrc⟩:∃A:Addr,(if cap=j then some (⟨blk,off,none⟩:Addr)else some ⟨blk,off+j,none⟩)=some A/\Hid (∀t u,news[t]? = some u->w.drew.cell? (A.add t)=some u):=by
   by_cases h:cap=j
   ·refine⟨⟨blk,off,none⟩,by simp[h],fun t u hu=>?_⟩;have h0:news.length=0:=(by rw[hlen];omega);rw[List.length_eq_zero_iff.1 h0]at hu;simp at hu
   ·refine⟨⟨blk,off+j,none⟩,by simp[h],fun t u hu=>?_⟩;have ht:t<d.size-j:=(by have:=(List.getElem?_eq_some_iff.1 hu).1;rwa[hlen]at this);rw[hget t ht]at hu;rw[Addr.add_lit,show off+j+t=off+(j+t) by omega];exact(hH (j+t) (by omega)).1.trans hu
  have s1:Hid (news.length=(d.size-j)*1):=(by rw[Nat.mul_one];exact hlen);have s2:Hid (∀u∈news,u.oneCell'=true):=(by intro u hu;rw[hnews]at hu;obtain⟨x,_,rfl⟩:=List.mem_map.1 hu;rfl);have s3:Hid (∀t,t<news.length->(w.drew.cell? ⟨blk,off+i*1+t,none⟩).isSome=true/\w.drew.frozen? ⟨blk,off+i*1+t,none⟩=false):=(by intro t ht;rw[hlen]at ht;rw[Nat.mul_one,Nat.add_assoc];exact⟨by show(w.cell? _).isSome=true;rw[(hH (i+t) (by omega)).1];rfl,(hH (i+t) (by omega)).2⟩)
  -- the world behind the append,behind a name
  obtain⟨W1,hW1⟩:∃W1,W1=w.drew.setCells blk (off+i*1) news:=⟨_,rfl⟩;have hW1':W1=putRow encStr (Sort.ahead w 1) blk off (lay d i (d.toList.drop j)):=(by rw[hW1,hnews,Nat.mul_one,←putRow_setCells encStr (Sort.ahead w 1) blk off _ d i (by simp;omega),putRow_self encStr (Sort.ahead w 1) blk off d (holds_ahead encStr w 1 blk off d hH)];rfl);have hH1:Holds encStr W1 blk off (lay d i (d.toList.drop j)):=(by rw[hW1'];exact holds_putRow encStr _ blk off d _ (holds_ahead encStr w 1 blk off d hH) (lay_size _ _ _));have hcl:∀ty,(Builtin.clear_ #[27] ty #[.slice (some ⟨blk,off+(i+(d.size-j)),none⟩) (d.size-(i+(d.size-j))) (cap-(i+(d.size-j)))]).run Tryz.prog W1 = .ok (.tuple #[]) (W1.setCells blk (off+(i+(d.size-j))) (List.replicate (d.size-(i+(d.size-j))) (encStr []))) :=
   fun ty=>Lib.run_clear_slice W1 _ _ ty _ xX RD rfl rfl blk (off+(i+(d.size-j))) _ _ (by omega) (fun t ht=>by rw[show off+(i+(d.size-j))+t=off+(i+(d.size-j)+t) by omega,(hH1 _ (by rw[lay_size];omega)).1];rfl) (fun t ht=>by rw[show off+(i+(d.size-j))+t=off+(i+(d.size-j)+t) by omega];exact(hH1 _ (by rw[lay_size];omega)).2)
  have X:Aside (W1=putRow encStr (Sort.ahead w 1) blk off (lay d i (d.toList.drop j))):=hW1';have hW:Hid (W1=w.drew.setCells blk (off+i*1) news):=hW1;have hic:i<=cap:=(by omega);have hjc:j<=cap:=(by omega);clear hW1 hW1' hH1 hH hget hnews hlen
  go_enter Tryz.func123,Tryz.ntmps123
  go_wp2_with fail
  go_region_law_o (refine step_append_room rfl (.tmp 22) (.tmp 25) 27 rfl 9 i0 1 xX hi0 hz1 blk off i cap (by simp[Act.eval,Act.put]) A (d.size-j) (cap-j) news (by simp[Act.eval,Act.put]) s1.out hsrc.out s2.out (by omega) s3.out ?_;rw[←hW.out])
  go_wp2
  go_ret;refine⟨by rw[show d.size-(j-i)=i+(d.size-j) by omega];rfl,1,?_⟩;rw[←delete_arr d i j [] hij hj,←putRow_setCells encStr _ blk off _ _ (i+(d.size-j)) (by rw[lay_size];simp;omega),←X.out,List.map_replicate,show d.size-(i+(d.size-j))=j-i by omega]
/-- slices.Delete at []string: "Delete modifies s in place by removing the elements s[i:j], and returns the modified slice. Delete panics if j > len(s) or s[i:j] is not a valid slice of s. Delete is O(len(s)-i), so if many items must be deleted, it is better to make a single call deleting them all together than to delete one at a time. Delete zeroes the elements s[len(s)-(j-i):len(s)]. If the result is empty, it has the same nilness as s.": FOR i ≤ j ≤ len(s) IT RETURNS THE SLICE CUT TO len(s) - (j - i) ELEMENTS; ITS CELLS HOLD what stood ahead of i, what stood from j on, then j - i zero values; all else is as it was, but for the count of draws. IN THE WORDS OF slices.Sort's CONTRACT ('Holds', 'putRow'). It asks 'zs.length ≤ cap ≤ 2^63 - 1' (every slice's). (Outside i ≤ j ≤ len(s) it panics: no contract here.) -/
theorem slices_Delete_string(blk off cap i j:Nat)(zs:List (List UInt8))(w:World)(hH:Holds encStr w blk off zs.toArray)(hcap:zs.length<=cap)(hm:cap<=9223372036854775807)(hij:i<=j)(hj:j<=zs.length) :
 Calls Tryz.prog 123 #[.slice (some ⟨blk,off,none⟩) zs.length cap,.int .i64 i,.int .i64 j] w fun e w'=>e = .returned (.slice (some ⟨blk,off,none⟩) (zs.length-(j-i)) cap)/\∃q,w'=putRow encStr (Sort.ahead w q) blk off (zs.take i++zs.drop j++List.replicate (j-i) []).toArray:=by
 have h:=slices_Delete_string_arr blk off cap i j zs.toArray w hH (by simpa using hcap) hm hij (by simpa using hj)
 simpa using h
/-- The same at nil: nil comes back; the world is as it was. -/
theorem slices_Clone_string_nil(n c:Nat)(w:World) :
 Calls Tryz.prog 87 #[.slice none n c] w fun e w'=>e = .returned (.slice none 0 0)/\w'=w:=by
 have rq:Tryz.prog.follows .mixedOrders=true:=(by kernel_rfl);have t_9:=Tryz.underlying9;have xX:=Tryz.underlying27;have q24:∀(w:World) (a:Option Addr) (n c n' c':Nat),(binOp .eql 27 (.slice a n c) (.slice none n' c')).run Tryz.prog w = .ok (.bool a.isNone) w:=fun w a n c n' c'=>Lib.run_eql_slice_nil w _ _ a n c n' c' Tryz.underlying27
 go_enter Tryz.func87,Tryz.ntmps87
 go_wp2
 go_ret;exact⟨rfl,rfl⟩
end Ins

namespace Own
open Go.RowKit Mem
theorem RF{x:Value}(h:x.oneCell'=true):∀v∈[x],v.oneCell'=true:=by intro v hv;obtain rfl:=List.mem_singleton.1 hv;exact h
set_option maxRecDepth 10000 in
theorem Xg(kv:Value)(n i:Nat)(xs:List Value)(x:ByteArray)(w:World)(vb:Nat)(hown:w.ownsRow 0 9 1 kv n xs)(hx:Bx w vb #[.string x] 9)(hne:kv.ownBlock≠some vb)(hi:i<=n)(hbig:(n+1)*16<=140737488355328)(h1:∀v∈xs,v.oneCell'=true) :
 Calls Tryz.prog 121 #[kv,.int .i64 i,.slice (some ⟨vb,0,none⟩) 1 1] w (lU w kv n 1 (xs.take (i*1)++([.string x]++xs.drop (i*1))) 9):=by
 have hvs:∀j v,([Value.string x])[j]? = some v->w.cell? ⟨vb,0+j,none⟩=some v:=fun j v h=>by rw[Nat.zero_add,hx.cell];simpa using h
 have h1v:=RF (x:=.string x) rfl;have hml:∀G,G=grownCap w (n+1) 0 9->G=G:=fun _ _=>rfl
 have hxl:xs.length=n*1:=hown.1;rcases dO hown with⟨rfl,rfl,rfl⟩|⟨g,cap,cur,rfl,_,hb,hn,hm,hs,kR⟩
 ·obtain rfl:i=0:=(by omega);refine(Ins.slices_Insert_string_end_grow none 0 0 vb 0 1 1 [] [.string x] w (by decide) (Nat.le_refl _) (by decide) (by omega) rfl rfl (fun _=>rfl) (fun a h=>by cases h) hvs h1v).mono ?_;rintro e w' ⟨rfl,rfl⟩;exact iP (k:=1) (xs:=[]) (V:=[.string x]) (n:=0) rfl rfl rfl (grownCap_ge w _ _ _) (grownCap_le_maxLen w _ _ _ (by unfold maxLen;omega))
 ·have hcs:∀j v,xs[j]? = some v->w.cell? ⟨g,0+j,none⟩=some v:=fun j v h=>by
   rw[Nat.zero_add,hb.cell,kR j (by rw[←hxl];exact(List.getElem?_eq_some_iff.1 h).1)];exact h
  have hlx:xs.length=n:=(by omega);have hgv:g≠vb:=fun e=>hne (by rw[←e];rfl)
  have hm':cap<=9223372036854775807:=(by unfold maxLen at hm;omega);by_cases hr:n+1<=cap
  ·by_cases hin:i=n
   ·subst hin;refine(Ins.slices_Insert_string_end_room g 0 i cap vb 0 1 1 [.string x] w (by decide) hr hm' rfl (fun j hj=>dN hb (by omega)) (fun j _=>hb.frozen _) hvs h1v).mono ?_;rintro e w' ⟨rfl,rfl⟩;refine lV (k:=1) (cur:=cur) (i:=i) hb (Nat.le_refl _) hxl rfl hs hr hm kR (.inr ?_);rw[List.drop_of_length_le (by omega)];simp only[World.setCells,Nat.zero_add,Nat.mul_one]
   ·refine(Ins.slices_Insert_string_shift g 0 n cap i vb 0 1 1 xs [.string x] w (by omega) (by decide) hr hm' hgv.symm hlx rfl hcs (fun j hj=>dN hb (by omega)) (fun j _=>hb.frozen _) hvs h1 h1v _ _ _ _ hx.shape hb.shape (by omega) (hx.frozen _) (hx.frozen _)).mono ?_;rintro e w' ⟨rfl,rfl⟩;refine lV (k:=1) (cur:=cur) (i:=i) hb hi hxl rfl hs hr hm kR (.inl ?_);simp only[Nat.zero_add,Nat.mul_one]
  ·by_cases hin:i=n
   ·subst hin;refine(Ins.slices_Insert_string_end_grow (some ⟨g,0,none⟩) i cap vb 0 1 1 xs [.string x] w (by decide) hn (by omega) (by omega) hlx rfl (fun h=>by cases h) (fun a h j v hj=>by cases h;rw[Addr.add_lit];exact hcs j v hj) hvs h1v).mono ?_;rintro e w' ⟨rfl,rfl⟩;rw[List.take_of_length_le (by omega),List.drop_of_length_le (by omega),List.append_nil];exact iP (k:=1) (z:=(Value.string ⟨#[]⟩).cells) hxl rfl rfl (grownCap_ge w _ _ _) (grownCap_le_maxLen w _ _ _ (by unfold maxLen;omega))
   ·refine(Ins.slices_Insert_string_grow g 0 n cap i vb 0 1 1 xs [.string x] w (by omega) (by decide) hn (by omega) (by omega) hlx rfl hcs hvs h1 h1v).mono ?_;rintro e w' ⟨rfl,rfl⟩;refine yt (k:=1) (i:=i) (z:=(Value.string ⟨#[]⟩).cells) hi hxl rfl rfl (grownCap_ge w _ _ _) (grownCap_le_maxLen w _ _ _ (by unfold maxLen;omega)) ?_;simp only[Nat.mul_one]
set_option maxRecDepth 10000 in
theorem Xh(kv:Value)(n i:Nat)(xs V:List Value)(w:World)(vb:Nat)(hV:V.length=39)(hown:w.ownsRow 0 31 39 kv n xs)(hx:Bx w vb V.toArray 31)(hne:kv.ownBlock≠some vb)(hi:i<=n)(hbig:(n+1)*136<=140737488355328)(h1:∀v∈xs,v.oneCell'=true)(h1v:∀v∈V,v.oneCell'=true) :
 Calls Tryz.prog 122 #[kv,.int .i64 i,.slice (some ⟨vb,0,none⟩) 1 1] w (lU w kv n 39 (xs.take (i*39)++(V++xs.drop (i*39))) 31):=by
 have hvs:∀j v,V[j]? = some v->w.cell? ⟨vb,0+j,none⟩=some v:=fun j v h=>by rw[Nat.zero_add,hx.cell];simpa using h
 have hxl:xs.length=n*39:=hown.1;have hz:Ins.ah.cells.size=39:=(by kernel_rfl);rcases dO hown with⟨rfl,rfl,rfl⟩|⟨g,cap,cur,rfl,_,hb,hn,hm,hs,kR⟩
 ·obtain rfl:i=0:=(by omega);refine(Ins.fF none 0 0 vb 0 1 1 [] V w (by decide) (Nat.le_refl _) (by decide) (by omega) rfl (by omega) (fun _=>rfl) (fun a h=>by cases h) hvs h1v).mono ?_;rintro e w' ⟨rfl,rfl⟩;have:=iP (w:=w) (v:=.slice none 0 0) (k:=39) (xs:=[]) (V:=V) (z:=Ins.ah.cells) (n:=0) (t:=31) (G:=grownCap w (0+1) 0 31) rfl hV hz (grownCap_ge w _ _ _) (grownCap_le_maxLen w _ _ _ (by unfold maxLen;omega))
  simpa using this
 ·have hcs:∀j v,xs[j]? = some v->w.cell? ⟨g,0+j,none⟩=some v:=fun j v h=>by
   rw[Nat.zero_add,hb.cell,kR j (by rw[←hxl];exact(List.getElem?_eq_some_iff.1 h).1)];exact h
  have hgv:g≠vb:=fun e=>hne (by rw[←e];rfl)
  have hm':cap<=9223372036854775807:=(by unfold maxLen at hm;omega);by_cases hr:n+1<=cap
  ·by_cases hin:i=n
   ·subst hin;refine(Ins.jX g 0 i cap vb 0 1 1 V w (by decide) hr hm' (by omega) (fun j hj=>dN hb (by omega)) (fun j _=>hb.frozen _) hvs h1v).mono ?_;rintro e w' ⟨rfl,rfl⟩;refine lV (k:=39) (cur:=cur) (i:=i) hb (Nat.le_refl _) hxl hV hs hr hm kR (.inr ?_);rw[List.drop_of_length_le (by omega)];simp only[World.setCells,Nat.zero_add]
   ·refine(Ins.lG g 0 n cap i vb 0 1 1 xs V w (by omega) (by decide) hr hm' hgv.symm hxl (by omega) hcs (fun j hj=>dN hb (by omega)) (fun j _=>hb.frozen _) hvs h1 h1v _ _ _ _ hx.shape hb.shape (by omega) (hx.frozen _) (hx.frozen _)).mono ?_;rintro e w' ⟨rfl,rfl⟩;refine lV (k:=39) (cur:=cur) (i:=i) hb hi hxl hV hs hr hm kR (.inl ?_);simp only[Nat.zero_add]
  ·by_cases hin:i=n
   ·subst hin;refine(Ins.fF (some ⟨g,0,none⟩) i cap vb 0 1 1 xs V w (by decide) hn (by omega) (by omega) hxl (by omega) (fun h=>by cases h) (fun a h j v hj=>by cases h;rw[Addr.add_lit];exact hcs j v hj) hvs h1v).mono ?_;rintro e w' ⟨rfl,rfl⟩;rw[List.take_of_length_le (by omega),List.drop_of_length_le (by omega),List.append_nil];exact iP (k:=39) (z:=Ins.ah.cells) hxl hV hz (grownCap_ge w _ _ _) (grownCap_le_maxLen w _ _ _ (by unfold maxLen;omega))
   ·refine(Ins.mO g 0 n cap i vb 0 1 1 xs V w (by omega) (by decide) hn (by omega) (by omega) hxl (by omega) hcs hvs h1 h1v).mono ?_;rintro e w' ⟨rfl,rfl⟩;exact yt (k:=39) (i:=i) (z:=Ins.ah.cells) hi hxl hV hz (grownCap_ge w _ _ _) (grownCap_le_maxLen w _ _ _ (by unfold maxLen;omega)) rfl
/-- What a clone gives. -/
def iO(w:World)(n k:Nat)(xs:List Value)(t:TypeId)(e:Ending)(w':World):Prop:=∃v',e = .returned v'/\w'.ownsRow w.heap.size t k v' n xs/\Below w.heap.size w w'
set_option maxRecDepth 100000 in
theorem Jv(a:Addr)(n c:Nat)(xs:List Value)(w:World)(hl:xs.length=n*39)(hc:∀j u,xs[j]? = some u->w.cell? (a.add j)=some u)(h1:∀v∈xs,v.oneCell'=true)(hn:n*136<=140737488355328) :
 Calls Tryz.prog 119 #[.slice (some a) n c] w (iO w n 39 xs 31):=by
 have rq:Tryz.prog.follows .mixedOrders=true:=(by kernel_rfl);have xX:=Tryz.underlying22;obtain⟨i0,hi,hz0,hz1,hz2⟩:=info_parts Ins.fO;have q24:∀(w:World) (a:Option Addr) (n c n' c':Nat),(binOp .eql 22 (.slice a n c) (.slice none n' c')).run Tryz.prog w = .ok (.bool a.isNone) w:=fun w a n c n' c'=>Lib.run_eql_slice_nil w _ _ a n c n' c' Tryz.underlying22
 have A:=yH hc;clear hc
 go_enter Tryz.func119,Tryz.ntmps119
 go_wp2_with (at_builtin;refine wpList_append_own _ rfl _ _ 22 rfl w.heap.size 31 i0 Ins.ah 39 136 xX hi hz0 hz1 hz2 (by kernel_rfl) (by decide) _ _ _ rfl (World.ownsRow_made w #[] 0 (Nat.le_refl _) (Nat.zero_le _) rfl) a n c xs rfl hl ?qc2 h1 ?qc4 ?qc5 ?qc6 ?_)
 case qc2=>exact fun j u hj=>Lib.cell?_alloc_some _ (A.out j u hj)
 case qc4=>unfold maxLen;omega
 case qc5=>omega
 case qc6=>simp
 intro v' w1 hown hgrow hnil
 go_wp2
 go_ret;exact⟨v',rfl,by simpa using hown,((Below.refl _ w).alloc (Nat.le_refl _) _).grown hgrow (by simp) (by intro k hk;simp[Value.ownBlock]at hk;omega)⟩
theorem Oj(v:Value)(n:Nat)(xs:List Value)(w:World)(hown:w.ownsRow 0 31 39 v n xs)(h1:∀v∈xs,v.oneCell'=true)(hn:n*136<=140737488355328) :
 Calls Tryz.prog 119 #[v] w (iO w n 39 xs 31):=by
 rcases dO hown with⟨rfl,rfl,rfl⟩|⟨g,cap,cur,rfl,_,hb,hnc,hm,hs,kR⟩
 ·have q24:∀(w:World) (a:Option Addr) (n c n' c':Nat),(binOp .eql 22 (.slice a n c) (.slice none n' c')).run Tryz.prog w = .ok (.bool a.isNone) w:=fun w a n c n' c'=>Lib.run_eql_slice_nil w _ _ a n c n' c' Tryz.underlying22
  clear hown
  go_enter Tryz.func119,Tryz.ntmps119
  go_wp2
  go_ret;exact⟨_,rfl,World.ownsRow_nil _ _ _ _,Below.refl _ _⟩
 ·exact Jv ⟨g,0,none⟩ n cap xs w hown.1 (hown.cells (g:=g) rfl) h1 hn
set_option maxRecDepth 100000 in
theorem y9(a:Addr)(n c:Nat)(xs:List Value)(w:World)(hl:xs.length=n*1)(hc:∀j u,xs[j]? = some u->w.cell? (a.add j)=some u)(h1:∀v∈xs,v.oneCell'=true)(hn:n*16<=140737488355328) :
 Calls Tryz.prog 87 #[.slice (some a) n c] w (iO w n 1 xs 9):=by
 have rq:Tryz.prog.follows .mixedOrders=true:=(by kernel_rfl);have xX:=Tryz.underlying27;obtain⟨i0,hi,hz0,hz1,hz2⟩:=info_parts Make.bI;have q24:∀(w:World) (a:Option Addr) (n c n' c':Nat),(binOp .eql 27 (.slice a n c) (.slice none n' c')).run Tryz.prog w = .ok (.bool a.isNone) w:=fun w a n c n' c'=>Lib.run_eql_slice_nil w _ _ a n c n' c' Tryz.underlying27
 have A:=yH hc;clear hc
 go_enter Tryz.func87,Tryz.ntmps87
 go_wp2_with (at_builtin;refine wpList_append_own _ rfl _ _ 27 rfl w.heap.size 9 i0 (.string { data:=#[] }) 1 16 xX hi hz0 hz1 hz2 rfl (by decide) _ _ _ rfl (World.ownsRow_made w #[] 0 (Nat.le_refl _) (Nat.zero_le _) rfl) a n c xs rfl hl ?qc2 h1 ?qc4 ?qc5 ?qc6 ?_)
 case qc2=>exact fun j u hj=>Lib.cell?_alloc_some _ (A.out j u hj)
 case qc4=>unfold maxLen;omega
 case qc5=>omega
 case qc6=>simp
 intro v' w1 hown hgrow hnil
 go_wp2
 go_ret;exact⟨v',rfl,by simpa using hown,((Below.refl _ w).alloc (Nat.le_refl _) _).grown hgrow (by simp) (by intro k hk;simp[Value.ownBlock]at hk;omega)⟩
theorem cloneStr(v:Value)(n:Nat)(xs:List Value)(w:World)(hown:w.ownsRow 0 9 1 v n xs)(h1:∀v∈xs,v.oneCell'=true)(hn:n*16<=140737488355328) :
 Calls Tryz.prog 87 #[v] w (iO w n 1 xs 9):=by
 rcases dO hown with⟨rfl,rfl,rfl⟩|⟨g,cap,cur,rfl,_,hb,hnc,hm,hs,kR⟩
 ·refine(Ins.slices_Clone_string_nil 0 0 w).mono ?_;rintro e w' ⟨rfl,rfl⟩;exact⟨_,rfl,World.ownsRow_nil _ _ _ _,Below.refl _ _⟩
 ·exact y9 ⟨g,0,none⟩ n cap xs w hown.1 (hown.cells (g:=g) rfl) h1 hn
/-- A clone of a list of texts. -/
theorem wY(S:Nat->Prop)(v:Value)(l:List ByteArray)(w:World)(h:Tr.Strs S w v l)(hn:l.length*16<=140737488355328) :
 Calls Tryz.prog 87 #[v] w (iO w l.length 1 (l.map .string) 9):=by
 obtain⟨ao,cap,rfl,hl,hm,hk⟩:=h;have h1:∀v∈l.map Value.string,v.oneCell'=true:=(by intro u hu;obtain⟨x,_,rfl⟩:=List.mem_map.1 hu;rfl);have hlen:(l.map Value.string).length=l.length*1:=(by simp);cases ao with
 | none =>
  rcases hk with rfl|⟨b,o,e1,_⟩
  ·refine(Ins.slices_Clone_string_nil _ _ w).mono ?_;rintro e w' ⟨rfl,rfl⟩;exact⟨_,rfl,World.ownsRow_nil _ _ _ _,Below.refl _ _⟩
  ·cases e1
 | some a =>
  refine y9 a l.length cap _ w hlen (fun j u hj=>?_) h1 hn;rcases hk with rfl|⟨b,o,e1,_,e3⟩
  ·simp at hj
  ·cases e1
   rw[Addr.add_lit];have hjl:j<l.length:=(by have:=(List.getElem?_eq_some_iff.1 hj).1;simpa using this);rw[e3 j hjl];rw[List.getElem?_map,List.getElem?_eq_getElem hjl]at hj;exact hj
end Own
end Go.Proofs.YtmmmghpimdfleaaGreatDoor
