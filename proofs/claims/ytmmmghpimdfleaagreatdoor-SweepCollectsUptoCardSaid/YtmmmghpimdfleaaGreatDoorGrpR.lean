/-
  A loop over a function, where the function keeps a state of its own in a cell: what it may turn is said by a relation of worlds.
  table.All: the keys with their values, rising, as they are when the range begins.
  A loop over a function whose loop variables lie in new memory each round.
  View.Jf: the other paths that TU to a path, rising.
-/
import Derived.Test.YtmmmghpimdfleaaGreatDoorTk
import Derived.RangeFuncNested
import Derived.RangeFuncBound
import Derived.RangeFuncCalls
import Derived.RangeFuncLeaves
import Derived.RangeFuncBox
import Derived.Test.YtmmmghpimdfleaaGreatDoorGrpQ
import Derived.Shelf.RegionOpen
import Derived.OwnWalkIn
import Derived.TacticsInMore
import Derived.LoopNIn
import Derived.LoopIn
import Derived.Maps.OwnIn
namespace Go.Proofs.YtmmmghpimdfleaaGreatDoor
namespace Yx
open Go.RowKit
/-- J stands whatever Mv turns. -/
def Stable{β:Type}(Mv:World->World->Prop)(J:β->World->Prop):Prop:=∀s A B,J s A->Mv A B->J s B
/-- What a function that is ranged over owes: it calls the loop's rounds with xs in order, or with a beginning of it where a round said no. -/
def Gives{α:Type}(n:Nat)(P:Program)(gf:Nat)(lb:Array Value)(encs:α->Array Value)(Mv Kp:World->World->Prop)(xs:List α)(w:World):Prop :=
 ∀(l:Nat) (J Jx:List α->World->Prop) (W:World),Below w.heap.size w W->Stable Mv J->Stable Mv Jx ->
  (∀pre x W1,J pre W1->pre ++ [x] <+: xs->YieldAt Fence.wide (n-1) P l (encs x) W1 fun e W' =>
   (e = .returned (.bool true)/\J (pre ++ [x]) W'/\Kp W1 W')∨(e = .returned (.bool false)/\Jx (pre ++ [x]) W')) ->
  J [] W ->
  CallsIn Fence.wide n P gf (#[.func (.yield l) #[] #[]]++lb) W fun e W'=>(∃v,e = .returned v)/\(J xs W'∨∃pre,pre <+: xs/\Jx pre W')
end Yx
set_option linter.unusedVariables false
set_option maxHeartbeats 8000000
set_option linter.unusedSimpArgs false
namespace All
open Go.RowKit Mem Tr Yx
open Go.Proofs.YtmmmghpimdfleaaGreatDoor.Own
theorem DD{F:Fence}(hd:F.depth=none){m m':Nat}{P:Program}{l:Nat}{f:FuncId}{tmps:Array Value}{assign body:Code}{w:World}{R:Ending->World->Prop}
 (h:RoundIn F m P l f tmps assign body w R):RoundIn F m' P l f tmps assign body w R:=⟨h.1,fun c cs _=>h.2 c cs (fun d h=>by rw[hd]at h;cases h)⟩
theorem DF{F:Fence}(hd:F.depth=none){m:Nat}(m':Nat){P:Program}{l:Nat}{args:Array Value}{W:World}{R:Ending->World->Prop}(h:YieldAt F m P l args W R):YieldAt F m' P l args W R:=by
 obtain⟨fn,tmps,assign,body,hy,hR⟩:=h;exact⟨fn,tmps,assign,body,hy,DD hd hR⟩
section
variable {P : Program}
theorem eH{F:Fence}{n:Nat}{op:Oper}{a:Act}{w:World}{K:Act->World->Prop}{Q:Exit->Act->World->Prop}(ty:TypeId)(x:Operand)(ho:op.op = .load ty x)
 (b o:Nat) (hx:a.eval x = .pointer (some ⟨b,o,none⟩)) (cs:List Value) (d:TypeDesc) (hc:w.rangeAt b o cs)
 (hu:P.underlying ty=some d) (hd:d.isRow=true) (hi:(P.info? ty).map (·.size)=some cs.length)
 (h:K (a.put op.dst (.agg cs.toArray)) w):op.wpIn F n P a w K Q:=by
 refine⟨fun f hf=>?_,?_⟩
 ·unfold Oper.about at hf;rw[ho]at hf;cases hf
 ·rw[Oper.semAt_plain F _ _ (fun c hc=>by rw[ho]at hc;cases hc)];unfold execOp;simp only[ho,hx,Instr.loadAt,Instr.sureAddr,Sem.run_bind,Sem.run_pure,Result.andThen_ok,run_loadVar_mid w b o ty cs d hc hu hd hi];exact h
end
theorem zdr(t:Nat)(w:World) :
 Calls Tryz.prog 85 #[.pointer (some ⟨t,0,none⟩)] w fun e w'=>e = .returned (.func (.func 127) #[] #[.pointer (some ⟨w.heap.size,0,none⟩)])/\w'=w.alloc (.cells #[.pointer (some ⟨t,0,none⟩)] 42):=by
 have hmf:∀(fn:Fn) (first cap:Array Value) (w:World),(Instr.makeFunc fn first cap).run Tryz.prog w = .ok (.func fn first cap) w:=fun _ _ _ _=>rfl
 go_enter Tryz.func85,Tryz.ntmps85
 go_wp2
 go_ret;exact⟨rfl,rfl⟩
/-- What a round keeps: of the old rows of cells only those that are the round's own may have turned. -/
def Kq(Own:World->Nat->Prop)(A B:World):Prop :=
 A.heap.size<=B.heap.size/\(∀k o,A.heap[k]? = some o->o.isCells=true->¬Own A k->B.heap[k]? = some o)/\∀k,Own B k->Own A k∨A.heap.size<=k
theorem Kq.trans{Own:World->Nat->Prop}{A B C:World}(h:Kq Own A B)(k:Kq Own B C):Kq Own A C:=by
 refine⟨Nat.le_trans h.1 k.1,fun i o hi ho hn=>k.2.1 i o (h.2.1 i o hi ho hn) ho (fun hb=>?_),fun i hi=>?_⟩
 ·rcases h.2.2 i hb with h1|h1
  ·exact hn h1
  ·have:=(Array.getElem?_eq_some_iff.1 hi).1;omega
 ·rcases k.2.2 i hi with h1|h1
  ·exact h.2.2 i h1
  ·exact .inr (Nat.le_trans h.1 h1)
/-- What the iterator turns between two rounds. -/
def Mq(A B:World):Prop:=Below A.heap.size A B
def encs(x:Rec × List Value):Array Value:=#[.string x.1.path,.agg x.2.toArray]
theorem RX{xs:List (Rec × List Value)}(h39:∀x∈xs,x.2.length=39):∀ {k:Nat} (hk:k<xs.length) {i:Nat} {u:Value},xs[k].2[i]? = some u->((xs.map (·.2)).flatten)[k*39+i]? = some u:=by
 induction xs with
 | nil=>intro k hk;simp at hk
 | cons x r ih =>
  intro k hk i u hi;have hx:=h39 x (List.mem_cons_self ..);rw[List.map_cons,List.flatten_cons];cases k with
  | zero =>
   have hi':x.2[i]? = some u:=hi;rw[Nat.zero_mul,Nat.zero_add,List.getElem?_append_left (List.getElem?_eq_some_iff.1 hi').1];exact hi'
  | succ k =>
   rw[List.getElem?_append_right (by rw[hx];omega),hx,show(k+1)*39+i-39=k*39+i by omega];exact ih (fun y hy=>h39 y (List.mem_cons_of_mem _ hy)) (by simpa using hk) hi
set_option maxRecDepth 20000 in
theorem walkIn(n l:Nat)(Own:World->Nat->Prop)(J Jx:List (Rec × List Value)->World->Prop)(hJ:Stable Mq J)(xs:List (Rec × List Value))(h39:∀x∈xs,x.2.length=39)(hlen:xs.length<=1073741824)
 (RY:∀A B:World,Mq A B->∀k,Own B k->Own A k) (t:Nat) (kv vv:Value) (W:World)
 (hB:Bx W t #[kv,vv] 174) (o1:W.ownsRow 0 9 1 kv xs.length (xs.map fun x=>.string x.1.path)) (o2:W.ownsRow 0 31 39 vv xs.length (xs.map (·.2)).flatten)
 (hno:∀k,(k=t∨kv.ownBlock=some k∨vv.ownBlock=some k)->¬Own W k)
 (hY:∀pre x W1,J pre W1->pre ++ [x] <+: xs->YieldAt Fence.wide (n-1) Tryz.prog l (encs x) W1 fun e W'=>(e = .returned (.bool true)/\J (pre ++ [x]) W'/\Kq Own W1 W')∨(e = .returned (.bool false)/\Jx (pre ++ [x]) W'))
 (hJ0:J [] W) :
 CallsIn Fence.wide n Tryz.prog 128 #[.pointer (some ⟨t,0,none⟩),.int .i64 0,.func (.yield l) #[] #[]] W fun e W'=>(∃v,e = .returned v)/\(J xs W'∨∃pre,pre <+: xs/\Jx pre W'):=by
 have HB:=yH hB;have Jw:=yH o1;have o9:=yH o2;have Tm:=yH hno;obtain⟨N,hN⟩:∃N,xs.length=N:=⟨_,rfl⟩;rw[hN]at hlen Jw o9;have HN:=yH hN;clear hB o1 o2 hno hN;refine callsIn_of_wp Tryz.func128 rfl trivial ?_ rfl;simp only[Tryz.ntmps128,List.size_toArray,List.length_cons,List.length_nil,Nat.reduceAdd,Nat.reduceSub,Array.replicate_succ,Array.replicate_zero,List.push_toArray,List.append_toArray,List.nil_append,List.cons_append]
 gi_wp2
 gi_loopw [6] (fun i wr=>∃k:Nat,k<=N/\i = .int .i64 k/\Hid (∀b,(b=t∨kv.ownBlock=some b∨vv.ownBlock=some b)->wr.heap[b]? = W.heap[b]?/\¬Own wr b)/\J (xs.take k) wr) (fun i _=>N-(intOf i).toNat)
 case atStart=>exact⟨0,Nat.zero_le _,rfl,yH (fun b hb=>⟨rfl,Tm.out b hb⟩),hJ0⟩
 case round =>
  obtain⟨k,hk,rfl,hsame,hj⟩:=hrel;have ob1:wr.ownsRow 0 9 1 kv N (xs.map fun x=>.string x.1.path):=Tab.iI Jw.out (fun b hb=>(hsame.out b (.inr (.inl hb))).1);have ob2:wr.ownsRow 0 31 39 vv N (xs.map (·.2)).flatten:=Tab.iI o9.out (fun b hb=>(hsame.out b (.inr (.inr hb))).1);have bt:=HB.out.kept (hsame.out t (.inl rfl)).1;obtain⟨a1,c1,hkv⟩:=Tab.aO ob1;obtain⟨a2,c2,hvv⟩:=Tab.aO ob2;have d0:wr.cell? ⟨t,0,none⟩=some (.slice a1 N c1):=(by rw[←hkv];exact bt.cell 0);have d1:wr.cell? ⟨t,1,none⟩=some (.slice a2 N c2):=(by rw[←hvv];exact bt.cell 1);by_cases hlt:k<N
  ·obtain⟨x,hx⟩:∃x,xs[k]'(by rw[HN.out];exact hlt)=x:=⟨_,rfl⟩;have hxl:x.2.length=39:=(by rw[←hx];exact h39 _ (List.getElem_mem _));have hpre:xs.take k ++ [x]=xs.take (k+1):=(by rw[←hx,List.take_succ_eq_append_getElem (by rw[HN.out];exact hlt)]);have HP:=yH hpre;have hxs:(xs.map fun x=>Value.string x.1.path)[k]? = some (.string x.1.path):=(by rw[List.getElem?_map,List.getElem?_eq_getElem (by rw[HN.out];exact hlt),hx];rfl);have hfl:∀i u,x.2[i]? = some u->((xs.map (·.2)).flatten)[k*39+i]? = some u:=fun i u hi=>RX h39 (by rw[HN.out];exact hlt) (by rw[hx];exact hi)
   subst hkv;subst hvv;rcases dO ob1 with⟨_,h0,_⟩|⟨g1,cp1,zeM,hv1,_,hb1,hn1,hm1,hs1,hc1⟩
   ·omega
   injection hv1 with zds zdu zdv;subst zds;rcases dO ob2 with⟨_,h0,_⟩|⟨g2,cp2,zeN,hv2,_,hb2,hn2,hm2,hs2,hc2⟩
   ·omega
   injection hv2 with zdw zdx zdy;subst zdw;have e0:(0:Int)<=(k:Int):=Int.natCast_nonneg _;have e1:(k:Int)<(N:Int):=(by omega);have gk:wr.cell? ⟨g1,0+k,none⟩=some (.string x.1.path):=(by rw[Nat.zero_add,hb1.cell,hc1 k (by omega)];exact hxs);have gk':wr.cell? ⟨g1,k,none⟩=some (.string x.1.path):=(by rw[hb1.cell,hc1 k (by omega)];exact hxs);have rk:wr.rangeAt g2 (k*39) x.2:=fun j u hj=>by
    have hj2:=(List.getElem?_eq_some_iff.1 hj).1;rw[hb2.cell,hc2 _ (by omega)];exact hfl j u hj
   obtain⟨fn,tmps,assign,body,hy,hR⟩:=hY (xs.take k) x wr.drew (hJ _ _ _ hj (Below.refl _ wr).drew) (by rw[HP.out];exact List.take_prefix _ _);unfold encs at hy;have tJ:∀ {W3:World},Kq Own wr.drew W3->∀b,(b=t∨(Value.slice (some ⟨g1,0,none⟩) N c1).ownBlock=some b∨(Value.slice (some ⟨g2,0,none⟩) N c2).ownBlock=some b)->W3.heap[b]? = W.heap[b]?/\¬Own W3 b:=fun {W3} hk b hb=>by
    have hs:=hsame.out b hb;have hno':¬Own wr.drew b:=fun h=>hs.2 (RY wr wr.drew (Below.refl _ wr).drew b h)
    obtain⟨o,ho,hc⟩:∃o,wr.heap[b]? = some o/\o.isCells=true:=by
     rcases hb with rfl|hb|hb
     ·exact⟨_,bt,rfl⟩
     ·obtain rfl:g1=b:=(by simpa[Value.ownBlock]using hb);exact⟨_,hb1,rfl⟩
     ·obtain rfl:g2=b:=(by simpa[Value.ownBlock]using hb);exact⟨_,hb2,rfl⟩
    refine⟨(hk.2.1 b o ho hc hno').trans (ho.symm.trans hs.1),fun h=>?_⟩;rcases hk.2.2 b h with h1|h1
    ·exact hno' h1
    ·have:=(Array.getElem?_eq_some_iff.1 ho).1;have h2:wr.heap.size<=b:=h1;omega
   clear hpre hxs hfl hx ob1 ob2 bt hc1 hc2 hb1 hb2 hs1 hs2 hm1 hm2 hn1 hn2 zdu zdv zdx zdy
   gi_wp2_with fail
   have rq:Tryz.prog.follows .mixedOrders=true:=(by kernel_rfl);refine wpIn_region_any rq ?_
   change wpAnyIn _ _ _ _ _ _ _ _ _ (World.drew _)
   have rd:wr.drew.rangeAt g2 (k*39) x.2:=rk;refine wpAnyIn_take (i:=0) (v:=?_) rfl rfl (by kernel_rfl) (by kernel_rfl) (by kernel_rfl) (fun _ _ _ h=>h) ⟨Or.inl ⟨by rfl,?_⟩,fun _=>rfl⟩ ?_
   rotate_left
   ·(intro w;go_simp;try with_reducible rfl)
   simp only[Act.put,yP];refine wpAnyIn_take (i:=1) (v:=?_) rfl rfl (by kernel_rfl) (by kernel_rfl) (by kernel_rfl) (fun _ _ _ h=>h) ⟨Or.inl ⟨by rfl,?_⟩,fun _=>rfl⟩ ?_
   rotate_left
   ·(intro w;go_simp;try with_reducible rfl)
   simp only[Act.put,yP];refine wpAnyIn_take (i:=2) (v:=?_) rfl rfl (by kernel_rfl) (by kernel_rfl) (by kernel_rfl) (fun _ _ _ h=>h) ⟨Or.inl ⟨by rfl,?_⟩,fun _=>rfl⟩ ?_
   rotate_left
   ·(intro w;go_simp;try with_reducible rfl)
   simp only[Act.put,yP];refine wpAnyIn_take (i:=3) (v:=?_) rfl rfl (by kernel_rfl) (by kernel_rfl) (by kernel_rfl) (fun _ _ _ h=>h) ⟨Or.inl ⟨by rfl,?_⟩,fun _=>rfl⟩ ?_
   rotate_left
   ·(intro w;go_simp;try with_reducible rfl)
   simp only[Act.put,yP];refine wpAnyIn_take (i:=5) (v:=?_) rfl rfl (by kernel_rfl) (by kernel_rfl) (by kernel_rfl) (fun _ _ _ h=>h) ⟨Or.inl ⟨by rfl,?_⟩,fun _=>rfl⟩ ?_
   rotate_left
   ·(intro w;go_simp;try with_reducible rfl)
   simp only[Act.put,yP];refine wpAnyIn_take (i:=8) (v:=?_) rfl rfl (by kernel_rfl) (by kernel_rfl) (by kernel_rfl) (fun _ _ _ h=>h) ⟨Or.inl ⟨by rfl,?_⟩,fun _=>rfl⟩ ?_
   rotate_left
   ·(intro w;go_simp;try with_reducible rfl)
   simp only[Act.put,yP];refine wpAnyIn_take (i:=9) (v:=?_) rfl rfl (by kernel_rfl) (by kernel_rfl) (by kernel_rfl) (fun _ _ _ h=>h) ⟨Or.inl ⟨by rfl,?_⟩,fun _=>rfl⟩ ?_
   rotate_left
   ·(intro w;go_simp;try with_reducible rfl)
   simp only[Act.put,yP];refine wpAnyIn_take (i:=10) (v:=?_) rfl rfl (by kernel_rfl) (by kernel_rfl) (by kernel_rfl) (fun _ _ _ h=>h) ⟨Or.inl ⟨by rfl,?_⟩,fun _=>rfl⟩ ?_
   rotate_left
   ·(intro w;go_simp;try with_reducible rfl)
   simp only[Act.put,yP];refine wpAnyIn_take (i:=12) (v:=?_) rfl rfl (by kernel_rfl) (by kernel_rfl) (by kernel_rfl) (fun _ _ _ h=>h) ⟨Or.inl ⟨by rfl,?_⟩,fun _=>rfl⟩ ?_
   rotate_left
   ·(intro w;go_simp;try with_reducible rfl)
   simp only[Act.put,yP];refine wpAnyIn_ready (rs:=[4,11]) (by kernel_rfl) (by simp) ?_;refine AllReadyIn.cons rfl (fun K hK=>?_) (AllReadyIn.cons rfl (fun K hK=>?_) AllReadyIn.nil)
   ·skip
    go_simp;refine hK _ _ ?_;clear hK K
    try simp only[Act.put,yP]
    refine wpAnyIn_take (i:=6) (v:=?_) rfl rfl (by kernel_rfl) (by kernel_rfl) (by kernel_rfl) (fun _ _ _ h=>h) ⟨Or.inl ⟨by rfl,?_⟩,fun _=>rfl⟩ ?_
    rotate_left
    ·(intro w;go_simp;try with_reducible rfl)
    simp only[Act.put,yP];refine wpAnyIn_ready (rs:=[7,11]) (by kernel_rfl) (by simp) ?_;refine AllReadyIn.cons rfl (fun K hK=>?_) (AllReadyIn.cons rfl (fun K hK=>?_) AllReadyIn.nil)
    ·skip
     go_simp;refine hK _ _ ?_;clear hK K
     try simp only[Act.put,yP]
     refine wpAnyIn_ready (rs:=[11]) (by kernel_rfl) (by simp) ?_;refine AllReadyIn.cons rfl (fun K hK=>?_) AllReadyIn.nil
     go_simp;refine hK _ _ ?_;clear hK K
     try simp only[Act.put,yP]
     refine wpAnyIn_take (i:=13) (v:=?_) rfl rfl (by kernel_rfl) (by kernel_rfl) (by kernel_rfl) (fun _ _ _ h=>h) ⟨Or.inl ⟨by rfl,?_⟩,fun _=>rfl⟩ ?_
     rotate_left
     ·(intro w;go_simp;try with_reducible rfl)
     simp only[Act.put,yP];refine wpAnyIn_ready (rs:=[14]) (by kernel_rfl) (by simp) ?_;refine AllReadyIn.cons rfl (fun K hK=>?_) AllReadyIn.nil;rw[if_pos (by rfl)];refine eH 31 _ (by rfl) g2 (k*39) (by rfl) x.2 _ rd Tryz.underlying31 rfl (by rw[hxl];kernel_rfl) ?_;refine hK _ _ ?_;clear hK K;simp only[Act.put,yP];refine wpAnyIn_ready (rs:=[15]) (by kernel_rfl) (by simp) ?_;refine AllReadyIn.cons rfl (fun K hK=>?_) AllReadyIn.nil
     go_simp;refine⟨fun h=>by simp[Fence.wide]at h,hR.mono ?_⟩;rintro e W3 (⟨rfl,hJ3,hk3⟩|⟨rfl,hJx3⟩)
     ·go_simp;refine hK _ _ ?_;clear hK K;refine wpAnyIn_take (i:=16) (v:=?_) rfl rfl (by kernel_rfl) (by kernel_rfl) (by kernel_rfl) (fun _ _ _ h=>h) ⟨Or.inl ⟨by rfl,?_⟩,fun _=>rfl⟩ ?_
      rotate_left
      ·(intro w;go_simp;try with_reducible rfl)
      simp only[Act.put,yP];refine wpAnyIn_done (by kernel_rfl) ?_ _
      gi_wp2_with fail
      go_roundw
      case rel =>
       rw[HP.out]at hJ3;exact⟨k+1,by omega,by go_num,yH (tJ hk3),hJ3⟩
      case measure=>simp[intOf];omega
     ·go_simp;refine hK _ _ ?_;clear hK K;refine wpAnyIn_take (i:=16) (v:=?_) rfl rfl (by kernel_rfl) (by kernel_rfl) (by kernel_rfl) (fun _ _ _ h=>h) ⟨Or.inl ⟨by rfl,?_⟩,fun _=>rfl⟩ ?_
      rotate_left
      ·(intro w;go_simp;try with_reducible rfl)
      simp only[Act.put,yP];refine wpAnyIn_done (by kernel_rfl) ?_ _
      gi_wp2_with fail
      refine bodyPost_ret (results_none rfl _ _ _) rfl ?_;rw[HP.out]at hJx3;exact⟨⟨_,rfl⟩,.inr ⟨_,List.take_prefix _ _,hJx3⟩⟩
    ·skip
     go_simp;refine hK _ _ ?_;clear hK K
     try simp only[Act.put,yP]
     refine wpAnyIn_take (i:=13) (v:=?_) rfl rfl (by kernel_rfl) (by kernel_rfl) (by kernel_rfl) (fun _ _ _ h=>h) ⟨Or.inl ⟨by rfl,?_⟩,fun _=>rfl⟩ ?_
     rotate_left
     ·(intro w;go_simp;try with_reducible rfl)
     simp only[Act.put,yP];refine wpAnyIn_ready (rs:=[7,14]) (by kernel_rfl) (by simp) ?_;refine AllReadyIn.cons rfl (fun K hK=>?_) (AllReadyIn.cons rfl (fun K hK=>?_) AllReadyIn.nil)
     ·skip
      go_simp;refine hK _ _ ?_;clear hK K
      try simp only[Act.put,yP]
      refine wpAnyIn_ready (rs:=[14]) (by kernel_rfl) (by simp) ?_;refine AllReadyIn.cons rfl (fun K hK=>?_) AllReadyIn.nil;rw[if_pos (by rfl)];refine eH 31 _ (by rfl) g2 (k*39) (by rfl) x.2 _ rd Tryz.underlying31 rfl (by rw[hxl];kernel_rfl) ?_;refine hK _ _ ?_;clear hK K;simp only[Act.put,yP];refine wpAnyIn_ready (rs:=[15]) (by kernel_rfl) (by simp) ?_;refine AllReadyIn.cons rfl (fun K hK=>?_) AllReadyIn.nil
      go_simp;refine⟨fun h=>by simp[Fence.wide]at h,hR.mono ?_⟩;rintro e W3 (⟨rfl,hJ3,hk3⟩|⟨rfl,hJx3⟩)
      ·go_simp;refine hK _ _ ?_;clear hK K;refine wpAnyIn_take (i:=16) (v:=?_) rfl rfl (by kernel_rfl) (by kernel_rfl) (by kernel_rfl) (fun _ _ _ h=>h) ⟨Or.inl ⟨by rfl,?_⟩,fun _=>rfl⟩ ?_
       rotate_left
       ·(intro w;go_simp;try with_reducible rfl)
       simp only[Act.put,yP];refine wpAnyIn_done (by kernel_rfl) ?_ _
       gi_wp2_with fail
       go_roundw
       case rel =>
        rw[HP.out]at hJ3;exact⟨k+1,by omega,by go_num,yH (tJ hk3),hJ3⟩
       case measure=>simp[intOf];omega
      ·go_simp;refine hK _ _ ?_;clear hK K;refine wpAnyIn_take (i:=16) (v:=?_) rfl rfl (by kernel_rfl) (by kernel_rfl) (by kernel_rfl) (fun _ _ _ h=>h) ⟨Or.inl ⟨by rfl,?_⟩,fun _=>rfl⟩ ?_
       rotate_left
       ·(intro w;go_simp;try with_reducible rfl)
       simp only[Act.put,yP];refine wpAnyIn_done (by kernel_rfl) ?_ _
       gi_wp2_with fail
       refine bodyPost_ret (results_none rfl _ _ _) rfl ?_;rw[HP.out]at hJx3;exact⟨⟨_,rfl⟩,.inr ⟨_,List.take_prefix _ _,hJx3⟩⟩
     ·skip
      rw[if_pos (by rfl)];refine eH 31 _ (by rfl) g2 (k*39) (by rfl) x.2 _ rd Tryz.underlying31 rfl (by rw[hxl];kernel_rfl) ?_;refine hK _ _ ?_;clear hK K;simp only[Act.put,yP];refine wpAnyIn_ready (rs:=[7]) (by kernel_rfl) (by simp) ?_;refine AllReadyIn.cons rfl (fun K hK=>?_) AllReadyIn.nil
      go_simp;refine hK _ _ ?_;clear hK K
      try simp only[Act.put,yP]
      refine wpAnyIn_ready (rs:=[15]) (by kernel_rfl) (by simp) ?_;refine AllReadyIn.cons rfl (fun K hK=>?_) AllReadyIn.nil
      go_simp;refine⟨fun h=>by simp[Fence.wide]at h,hR.mono ?_⟩;rintro e W3 (⟨rfl,hJ3,hk3⟩|⟨rfl,hJx3⟩)
      ·go_simp;refine hK _ _ ?_;clear hK K;refine wpAnyIn_take (i:=16) (v:=?_) rfl rfl (by kernel_rfl) (by kernel_rfl) (by kernel_rfl) (fun _ _ _ h=>h) ⟨Or.inl ⟨by rfl,?_⟩,fun _=>rfl⟩ ?_
       rotate_left
       ·(intro w;go_simp;try with_reducible rfl)
       simp only[Act.put,yP];refine wpAnyIn_done (by kernel_rfl) ?_ _
       gi_wp2_with fail
       go_roundw
       case rel =>
        rw[HP.out]at hJ3;exact⟨k+1,by omega,by go_num,yH (tJ hk3),hJ3⟩
       case measure=>simp[intOf];omega
      ·go_simp;refine hK _ _ ?_;clear hK K;refine wpAnyIn_take (i:=16) (v:=?_) rfl rfl (by kernel_rfl) (by kernel_rfl) (by kernel_rfl) (fun _ _ _ h=>h) ⟨Or.inl ⟨by rfl,?_⟩,fun _=>rfl⟩ ?_
       rotate_left
       ·(intro w;go_simp;try with_reducible rfl)
       simp only[Act.put,yP];refine wpAnyIn_done (by kernel_rfl) ?_ _
       gi_wp2_with fail
       refine bodyPost_ret (results_none rfl _ _ _) rfl ?_;rw[HP.out]at hJx3;exact⟨⟨_,rfl⟩,.inr ⟨_,List.take_prefix _ _,hJx3⟩⟩
   ·skip
    go_simp;refine hK _ _ ?_;clear hK K
    try simp only[Act.put,yP]
    refine wpAnyIn_take (i:=13) (v:=?_) rfl rfl (by kernel_rfl) (by kernel_rfl) (by kernel_rfl) (fun _ _ _ h=>h) ⟨Or.inl ⟨by rfl,?_⟩,fun _=>rfl⟩ ?_
    rotate_left
    ·(intro w;go_simp;try with_reducible rfl)
    simp only[Act.put,yP];refine wpAnyIn_ready (rs:=[4,14]) (by kernel_rfl) (by simp) ?_;refine AllReadyIn.cons rfl (fun K hK=>?_) (AllReadyIn.cons rfl (fun K hK=>?_) AllReadyIn.nil)
    ·skip
     go_simp;refine hK _ _ ?_;clear hK K
     try simp only[Act.put,yP]
     refine wpAnyIn_take (i:=6) (v:=?_) rfl rfl (by kernel_rfl) (by kernel_rfl) (by kernel_rfl) (fun _ _ _ h=>h) ⟨Or.inl ⟨by rfl,?_⟩,fun _=>rfl⟩ ?_
     rotate_left
     ·(intro w;go_simp;try with_reducible rfl)
     simp only[Act.put,yP];refine wpAnyIn_ready (rs:=[7,14]) (by kernel_rfl) (by simp) ?_;refine AllReadyIn.cons rfl (fun K hK=>?_) (AllReadyIn.cons rfl (fun K hK=>?_) AllReadyIn.nil)
     ·skip
      go_simp;refine hK _ _ ?_;clear hK K
      try simp only[Act.put,yP]
      refine wpAnyIn_ready (rs:=[14]) (by kernel_rfl) (by simp) ?_;refine AllReadyIn.cons rfl (fun K hK=>?_) AllReadyIn.nil;rw[if_pos (by rfl)];refine eH 31 _ (by rfl) g2 (k*39) (by rfl) x.2 _ rd Tryz.underlying31 rfl (by rw[hxl];kernel_rfl) ?_;refine hK _ _ ?_;clear hK K;simp only[Act.put,yP];refine wpAnyIn_ready (rs:=[15]) (by kernel_rfl) (by simp) ?_;refine AllReadyIn.cons rfl (fun K hK=>?_) AllReadyIn.nil
      go_simp;refine⟨fun h=>by simp[Fence.wide]at h,hR.mono ?_⟩;rintro e W3 (⟨rfl,hJ3,hk3⟩|⟨rfl,hJx3⟩)
      ·go_simp;refine hK _ _ ?_;clear hK K;refine wpAnyIn_take (i:=16) (v:=?_) rfl rfl (by kernel_rfl) (by kernel_rfl) (by kernel_rfl) (fun _ _ _ h=>h) ⟨Or.inl ⟨by rfl,?_⟩,fun _=>rfl⟩ ?_
       rotate_left
       ·(intro w;go_simp;try with_reducible rfl)
       simp only[Act.put,yP];refine wpAnyIn_done (by kernel_rfl) ?_ _
       gi_wp2_with fail
       go_roundw
       case rel =>
        rw[HP.out]at hJ3;exact⟨k+1,by omega,by go_num,yH (tJ hk3),hJ3⟩
       case measure=>simp[intOf];omega
      ·go_simp;refine hK _ _ ?_;clear hK K;refine wpAnyIn_take (i:=16) (v:=?_) rfl rfl (by kernel_rfl) (by kernel_rfl) (by kernel_rfl) (fun _ _ _ h=>h) ⟨Or.inl ⟨by rfl,?_⟩,fun _=>rfl⟩ ?_
       rotate_left
       ·(intro w;go_simp;try with_reducible rfl)
       simp only[Act.put,yP];refine wpAnyIn_done (by kernel_rfl) ?_ _
       gi_wp2_with fail
       refine bodyPost_ret (results_none rfl _ _ _) rfl ?_;rw[HP.out]at hJx3;exact⟨⟨_,rfl⟩,.inr ⟨_,List.take_prefix _ _,hJx3⟩⟩
     ·skip
      rw[if_pos (by rfl)];refine eH 31 _ (by rfl) g2 (k*39) (by rfl) x.2 _ rd Tryz.underlying31 rfl (by rw[hxl];kernel_rfl) ?_;refine hK _ _ ?_;clear hK K;simp only[Act.put,yP];refine wpAnyIn_ready (rs:=[7]) (by kernel_rfl) (by simp) ?_;refine AllReadyIn.cons rfl (fun K hK=>?_) AllReadyIn.nil
      go_simp;refine hK _ _ ?_;clear hK K
      try simp only[Act.put,yP]
      refine wpAnyIn_ready (rs:=[15]) (by kernel_rfl) (by simp) ?_;refine AllReadyIn.cons rfl (fun K hK=>?_) AllReadyIn.nil
      go_simp;refine⟨fun h=>by simp[Fence.wide]at h,hR.mono ?_⟩;rintro e W3 (⟨rfl,hJ3,hk3⟩|⟨rfl,hJx3⟩)
      ·go_simp;refine hK _ _ ?_;clear hK K;refine wpAnyIn_take (i:=16) (v:=?_) rfl rfl (by kernel_rfl) (by kernel_rfl) (by kernel_rfl) (fun _ _ _ h=>h) ⟨Or.inl ⟨by rfl,?_⟩,fun _=>rfl⟩ ?_
       rotate_left
       ·(intro w;go_simp;try with_reducible rfl)
       simp only[Act.put,yP];refine wpAnyIn_done (by kernel_rfl) ?_ _
       gi_wp2_with fail
       go_roundw
       case rel =>
        rw[HP.out]at hJ3;exact⟨k+1,by omega,by go_num,yH (tJ hk3),hJ3⟩
       case measure=>simp[intOf];omega
      ·go_simp;refine hK _ _ ?_;clear hK K;refine wpAnyIn_take (i:=16) (v:=?_) rfl rfl (by kernel_rfl) (by kernel_rfl) (by kernel_rfl) (fun _ _ _ h=>h) ⟨Or.inl ⟨by rfl,?_⟩,fun _=>rfl⟩ ?_
       rotate_left
       ·(intro w;go_simp;try with_reducible rfl)
       simp only[Act.put,yP];refine wpAnyIn_done (by kernel_rfl) ?_ _
       gi_wp2_with fail
       refine bodyPost_ret (results_none rfl _ _ _) rfl ?_;rw[HP.out]at hJx3;exact⟨⟨_,rfl⟩,.inr ⟨_,List.take_prefix _ _,hJx3⟩⟩
    ·skip
     rw[if_pos (by rfl)];refine eH 31 _ (by rfl) g2 (k*39) (by rfl) x.2 _ rd Tryz.underlying31 rfl (by rw[hxl];kernel_rfl) ?_;refine hK _ _ ?_;clear hK K;simp only[Act.put,yP];refine wpAnyIn_ready (rs:=[4]) (by kernel_rfl) (by simp) ?_;refine AllReadyIn.cons rfl (fun K hK=>?_) AllReadyIn.nil
     go_simp;refine hK _ _ ?_;clear hK K
     try simp only[Act.put,yP]
     refine wpAnyIn_take (i:=6) (v:=?_) rfl rfl (by kernel_rfl) (by kernel_rfl) (by kernel_rfl) (fun _ _ _ h=>h) ⟨Or.inl ⟨by rfl,?_⟩,fun _=>rfl⟩ ?_
     rotate_left
     ·(intro w;go_simp;try with_reducible rfl)
     simp only[Act.put,yP];refine wpAnyIn_ready (rs:=[7]) (by kernel_rfl) (by simp) ?_;refine AllReadyIn.cons rfl (fun K hK=>?_) AllReadyIn.nil
     go_simp;refine hK _ _ ?_;clear hK K
     try simp only[Act.put,yP]
     refine wpAnyIn_ready (rs:=[15]) (by kernel_rfl) (by simp) ?_;refine AllReadyIn.cons rfl (fun K hK=>?_) AllReadyIn.nil
     go_simp;refine⟨fun h=>by simp[Fence.wide]at h,hR.mono ?_⟩;rintro e W3 (⟨rfl,hJ3,hk3⟩|⟨rfl,hJx3⟩)
     ·go_simp;refine hK _ _ ?_;clear hK K;refine wpAnyIn_take (i:=16) (v:=?_) rfl rfl (by kernel_rfl) (by kernel_rfl) (by kernel_rfl) (fun _ _ _ h=>h) ⟨Or.inl ⟨by rfl,?_⟩,fun _=>rfl⟩ ?_
      rotate_left
      ·(intro w;go_simp;try with_reducible rfl)
      simp only[Act.put,yP];refine wpAnyIn_done (by kernel_rfl) ?_ _
      gi_wp2_with fail
      go_roundw
      case rel =>
       rw[HP.out]at hJ3;exact⟨k+1,by omega,by go_num,yH (tJ hk3),hJ3⟩
      case measure=>simp[intOf];omega
     ·go_simp;refine hK _ _ ?_;clear hK K;refine wpAnyIn_take (i:=16) (v:=?_) rfl rfl (by kernel_rfl) (by kernel_rfl) (by kernel_rfl) (fun _ _ _ h=>h) ⟨Or.inl ⟨by rfl,?_⟩,fun _=>rfl⟩ ?_
      rotate_left
      ·(intro w;go_simp;try with_reducible rfl)
      simp only[Act.put,yP];refine wpAnyIn_done (by kernel_rfl) ?_ _
      gi_wp2_with fail
      refine bodyPost_ret (results_none rfl _ _ _) rfl ?_;rw[HP.out]at hJx3;exact⟨⟨_,rfl⟩,.inr ⟨_,List.take_prefix _ _,hJx3⟩⟩
  ·obtain rfl:k=N:=(by omega);clear ob1 ob2 bt
   gi_wp2_with fail
   go_end0;exact⟨⟨_,rfl⟩,.inl (by rw[List.take_of_length_le (by rw[HN.out];exact Nat.le_refl _)]at hj;exact hj)⟩
theorem FO{F:Nat->Prop}{w:World}:∀ {rs:List Rec} {flat:List Value},Tab.iq F w rs flat->∃xs:List (Rec × List Value),xs.map (·.1)=rs/\(xs.map (·.2)).flatten=flat/\∀x∈xs,aT F w x.2 x.1:=by
 intro rs
 induction rs with
 | nil=>rintro flat rfl;exact⟨[],rfl,rfl,fun x h=>by cases h⟩
 | cons r rs ih =>
  rintro flat ⟨cs,rest,rfl,h2,h3⟩;obtain⟨xs,e1,e2,e3⟩:=ih h3;refine⟨(r,cs) :: xs,by rw[List.map_cons,e1],by rw[List.map_cons,List.flatten_cons,e2],fun x hx=>?_⟩;rcases List.mem_cons.1 hx with rfl|hx
  ·exact h2
  ·exact e3 x hx
set_option maxRecDepth 20000 in
/-- The iterator gives the table's rows. -/
theorem gives(n:Nat)(Own:World->Nat->Prop)(M F:Nat->Prop)(t b:Nat)(rs:List Rec)(w:World)(h:Tab.At M F w t rs)(hb:Boxed w b 42 (.pointer (some ⟨t,0,none⟩)))(hn:rs.length<=1073741824)
 (RY:∀A B:World,Mq A B->∀k,Own B k->Own A k) (zdz:∀W,Below w.heap.size w W->∀k,Own W k->k<W.heap.size) :
 ∃xs:List (Rec × List Value),xs.map (·.1)=rs/\(∀x∈xs,aT F w x.2 x.1)/\Gives n Tryz.prog 127 #[.pointer (some ⟨b,0,none⟩)] encs Mq (Kq Own) xs w:=by
 obtain⟨⟨kv,vv,flat,b0,o1,o2,hv,m1,m2⟩,mt,uQ,lt,uC,rise⟩:=h;obtain⟨xs,e1,e2,e3⟩:=FO hv;refine⟨xs,e1,e3,?_⟩;have hxl:xs.length=rs.length:=(by rw[←e1,List.length_map]);have hone:=hv.one;have hkeys:(rs.map fun r=>Value.string r.path)=xs.map fun x=>Value.string x.1.path:=(by rw[←e1,List.map_map];rfl)
 rw[←e2,←hxl]at o2;rw[←hxl,hkeys]at o1;rw[←e2]at hone;clear hv m1 m2 mt uQ lt uC rise hkeys;intro l J Jx W hW hJ hJx hY hJ0;have hbW:Boxed W b 42 (.pointer (some ⟨t,0,none⟩)):=(hW.block b (Array.getElem?_eq_some_iff.1 hb).1).trans hb;have d0:=hbW.cell;have hF:=Tab.Ud t xs.length kv vv _ _ W (b0.below hW) (Copy.own_below o1 hW) (Copy.own_below o2 hW) (by intro u hu;obtain⟨y,_,rfl⟩:=List.mem_map.1 hu;rfl) hone (by omega);clear hb hbW b0 o1 o2 hone;refine callsIn_of_wp Tryz.func127 rfl trivial ?_ rfl;simp only[Tryz.ntmps127,List.size_toArray,List.length_cons,List.length_nil,Nat.reduceAdd,Nat.reduceSub,Array.replicate_succ,Array.replicate_zero,List.push_toArray,List.append_toArray,List.nil_append,List.cons_append]
 gi_wp2_with fail
 refine⟨trivial,fun h=>by simp[Fence.wide]at h,(callsIn_wide.2 hF).mono ?_⟩;rintro e w2 ⟨t',kv',AP,rfl,bn,Ue,RQ,ht',hB⟩;clear hF d0
 gi_wp2_with fail
 refine⟨trivial,fun h=>by simp[Fence.wide]at h,(walkIn (n-1) l Own J Jx hJ xs (fun x hx=>(e3 x hx).length) (by omega) RY t' kv' AP w2 bn (Tab.uO Ue) (Tab.uO RQ) ?_ ?_ (hJ _ _ _ hJ0 hB)).mono ?_⟩
 ·intro k hk hown;have h1:=zdz W hW k (RY W w2 hB k hown);rcases hk with rfl|hk|hk
  ·omega
  ·have:=(Ue.lt k hk).1;omega
  ·have:=(RQ.lt k hk).1;omega
 ·intro pre x W1 hj hp;exact DF rfl _ (hY pre x W1 hj hp)
 rintro e W2 ⟨⟨v,rfl⟩,hfin⟩
 gi_wp2_with fail
 go_end0;exact⟨⟨_,rfl⟩,hfin⟩
end All

namespace Yx
open Go.RowKit
theorem FP{P:Program}{n:Nat}{α:Type}{g:Operand}{ps:Array Tmp}{assign body:Code}{Q:Exit->Act->World->Prop}{a:Act}{w:World}{gf:Nat}{lb:Array Value}
 (hg:a.eval g = .func (.func gf) #[] lb) (eg:∀args w,(callFunc gf args).run P w = .ok (.enter gf args) w)
 {encs:α->Array Value} {Mv Kp:World->World->Prop} {xs:List α} (hseq:Gives (n-1) P gf lb encs Mv Kp xs w)
 (Oz:∀A B,Mv A B->∀(k:Nat) (o:Obj),w.heap.size<=k->A.heap[k]? = some o->o.isCells=false->B.heap[k]? = some o)
 (hKt:∀ {A B C:World},Kp A B->Kp B C->Kp A C) (hKb:∀(W:World) (l:Nat) (o o':Obj),w.heap.size<=l->W.heap[l]? = some o->o.isCells=false->Kp W (W.putObj l o'))
 (hps:∀x,(encs x).size=ps.size)
 (I:List α->World->Prop) (Ix:Code->List α->World->Prop) (hI:OwnFrom w.heap.size I) (hIx:∀c,OwnFrom w.heap.size (Ix c)) (mI:Stable Mv I) (mIx:∀c,Stable Mv (Ix c)) (h0:I [] w) (Asg:α->Act->World->Prop) (zbj:∀x a (W:World) (l:Nat) (o o':Obj),w.heap.size<=l->W.heap[l]? = some o->o.isCells=false->Asg x a W->Asg x a (W.putObj l o'))
 (RZ:∀A B:World,Below A.heap.size A B->Kp A B)
 (hassign:∀(l:Nat) (x:α) (W:World) (K:Act->World->Prop),x∈xs->(∀a1 W1,Below W.heap.size W W1->Asg x a1 W1->K a1 W1) ->
  assign.wpIn (Fence.wide.inRound l) (n-1-1) P (Exit.then K (fun _ _ _=>False)) { tmps:=(ps.zip (encs x)).foldl (fun t (p,v)=>t.setIfInBounds p v) a.tmps,defers:=[] } W)
 (hbody:∀(l:Nat) (pre:List α) (x:α) (W:World) (a1:Act),I pre W->pre ++ [x] <+: xs->Asg x a1 W->body.wpIn (Fence.wide.inRound l) (n-1-1) P (ownPostG w.heap.size Kp I Ix (pre ++ [x]) W) a1 W)
 (hdone:∀(D:Nat) (W:World),w.heap.size<=D->I xs W->W.heap[D]? = some (.deferred (some []))->Q .normal { a with defers:={ target:=.collected D,args:=#[] } :: a.defers } W)
 (hstop:∀(D:Nat) (c:Code) (pre:List α) (W:World),w.heap.size<=D->pre <+: xs->Ix c pre W->W.heap[D]? = some (.deferred (some []))->c.wpIn Fence.wide n P Q { a with defers:={ target:=.collected D,args:=#[] } :: a.defers } W) :
 (Code.rangeFunc g ps assign body).wpIn Fence.wide n P Q a w:=by
 refine wpIn_rangeFunc fun fn hfn=>?_
 let OA:LoopState->Option Code->Loop:=fun st pe=>{ state:=st,pending:=pe,fn,tmps:=a.tmps,params:=ps,assign,body,defers:=w.heap.size }
 have kS:∀st pe,OA st pe = { state:=st,pending:=pe,fn,tmps:=a.tmps,params:=ps,assign,body,defers:=w.heap.size }:=fun _ _=>rfl
 generalize OA=rec at kS
 -- the two blocks that the loop lays for itself: D for the rounds' deferred calls,D+1 its record
 obtain⟨D,hD⟩:∃D,w.heap.size=D:=⟨_,rfl⟩;obtain⟨W1,hW1⟩:∃W1,(w.alloc (.deferred (some []))).alloc (.loop (rec .ready none))=W1:=⟨_,rfl⟩;have hs1:W1.heap.size=D+2:=(by rw[←hW1];simp[hD]);have hL1:W1.heap[D+1]? = some (.loop (rec .ready none)):=(by have:=World.alloc_heap_new (w.alloc (.deferred (some []))) (.loop (rec .ready none));rw[World.size_alloc,hD,hW1]at this;exact this);have hK1:W1.heap[D]? = some (.deferred (some [])):=(by rw[←hW1,←hD];exact(Below.heap_alloc _ _ _ (by simp)).trans (World.alloc_heap_new w _));have hI1:I [] W1:=(by rw[←hW1];exact hI.alloc _ (hI.alloc _ h0));have hb1:Below w.heap.size w W1:=(by rw[←hW1];exact((Below.refl _ w).alloc (Nat.le_refl _) _).alloc (by simp) _);rw[hD]at Oz hKb hI hIx hbody hdone hstop zbj;refine⟨D+1,[{ target:=.collected D,args:=#[] }],W1,{ target:=.fn (.func gf) lb,args:=#[.func (.yield (D+1)) #[] #[]] },W1,gf,#[.func (.yield (D+1)) #[] #[]]++lb,W1,?_,?_,?_,?_,fun h=>by simp[Fence.wide]at h,?_⟩
 ·have:=run_enterLoop_outer (P:=P) (w:=w) fn a.tmps ps assign body;rw[←kS,hD,hW1]at this;exact this
 ·simp only[resolve,hg];simp[go_sem]
 ·exact fun _ _=>trivial
 ·simp[invoke,go_sem,eg]
 have keep:∀(A:World) (o':Obj) (k:Nat) (o:Obj),k≠D+1->A.heap[k]? = some o->(A.putObj (D+1) o').heap[k]? = some o:=fun A o' k o hk h=>(World.putObj_heap_other hk).trans h
 refine(hseq (D+1)
  (fun pre W=>I pre W/\W.heap[D+1]? = some (.loop (rec .ready none))/\W.heap[D]? = some (.deferred (some [])))
  (fun pre W=>∃c,Ix c pre W/\W.heap[D+1]? = some (.loop (rec .done (some c)))/\W.heap[D]? = some (.deferred (some [])))
  W1 hb1
  (fun s A B hs hm=>⟨mI s A B hs.1 hm,Oz A B hm _ _ (by omega) hs.2.1 rfl,Oz A B hm _ _ (Nat.le_refl _) hs.2.2 rfl⟩)
  (fun s A B hs hm=>by
   obtain⟨c,hc,hl,hk⟩:=hs;exact⟨c,mIx c s A B hc hm,Oz A B hm _ _ (by omega) hl rfl,Oz A B hm _ _ (Nat.le_refl _) hk rfl⟩)
  ?round ⟨hI1,hL1,hK1⟩).mono ?after
 case round =>
  rintro pre x W ⟨hi,hl,hk⟩ hpre;have hlt:D+1<W.heap.size:=(Array.getElem?_eq_some_iff.1 hl).1;have hy:=run_yield (P:=P) (args:=encs x) hl (by rw[kS];exact hps x);rw[kS]at hy;refine⟨fn,_,assign,body,hy,roundIn_of_wpIn hfn (hassign _ x W _ (hpre.subset (by simp)) (fun a1 W1 hbW hA=>?_))⟩;have hl1:W1.heap[D+1]? = some (.loop (rec .ready none)):=(hbW.block _ hlt).trans hl;have hk1:W1.heap[D]? = some (.deferred (some [])):=(hbW.block _ (by omega)).trans hk;have hlt1:D+1<W1.heap.size:=(Array.getElem?_eq_some_iff.1 hl1).1;have hi1:I pre W1:=hI pre W W1 none hi ⟨hbW.os,hbW.tape,hbW.output,hbW.size,fun i hi2 _=>hbW.block i hi2⟩ (fun r e=>by cases e);obtain⟨busy,ng⟩:∃W2,W1.putObj (D+1) (.loop { rec .ready none with state:=.busy })=W2:=⟨_,rfl⟩;have hl2:busy.heap[D+1]? = some (.loop { rec .ready none with state:=.busy }):=(by rw[←ng];exact World.putObj_heap_same hlt1);have hk2:busy.heap[D]? = some (.deferred (some [])):=(by rw[←ng];exact keep W1 _ D _ (by omega) hk1);have hw2:Kp W busy:=(by rw[←ng];exact hKt (RZ _ _ hbW) (hKb _ _ _ _ (by omega) hl1 rfl));have hi2:I pre busy:=(by rw[←ng];exact hI.putObj _ hi1 (by omega) hl1 rfl);have hA2:Asg x a1 busy:=(by rw[←ng];exact zbj _ _ _ _ _ _ (by omega) hl1 rfl hA);refine⟨busy,?_,?_⟩
  ·rw[←ng];exact run_beginRound hl1 (by rw[kS])
  have fin:∀(jump:Option Code) (W3:World),KeepsFrom D busy W3 ->
   (Instr.endRound (D+1) jump).run P W3 = .ok (.bool jump.isNone) (W3.putObj (D+1) (.loop (rec (if jump.isNone then .ready else .done) jump))) /\
   (∃o:Obj,W3.heap[D+1]? = some o/\o.isCells=false) /\
   (W3.putObj (D+1) (.loop (rec (if jump.isNone then .ready else .done) jump))).heap[D+1]? = some (.loop (rec (if jump.isNone then .ready else .done) jump)) /\
   (W3.putObj (D+1) (.loop (rec (if jump.isNone then .ready else .done) jump))).heap[D]? = some (.deferred (some [])):=fun jump W3 hk3=>by
   have hl3:=hk3.same _ _ (by omega) hl2 rfl;have hr:=run_endRound (P:=P) jump hl3;rw[kS]at hr;exact⟨by rw[kS];exact hr,⟨_,hl3,rfl⟩,World.putObj_heap_same (Array.getElem?_eq_some_iff.1 hl3).1,keep W3 _ D _ (by omega) (hk3.same _ _ (Nat.le_refl _) hk2 rfl)⟩
  refine wpIn_mono (hbody _ pre x _ a1 hi2 hpre hA2) ?_;rintro e a3 W3 hp;cases e with
  | normal =>
   obtain⟨hk3,hkp3,hi3⟩:=hp;obtain⟨hr,⟨o,hl3,ho⟩,hl4,hk4⟩:=fin none W3 hk3;exact⟨_,_,hr,.inl ⟨rfl,⟨hI.putObj _ hi3 (by omega) hl3 ho,hl4,hk4⟩,hKt (hKt hw2 hkp3) (hKb _ _ _ _ (by omega) hl3 ho)⟩⟩
  | ret =>
   obtain⟨hk3,hi3⟩:=hp;obtain⟨hr,⟨o,hl3,ho⟩,hl4,hk4⟩:=fin (some .ret) W3 hk3;exact⟨_,_,hr,.inr ⟨rfl,.ret,(hIx _).putObj _ hi3 (by omega) hl3 ho,hl4,hk4⟩⟩
  | exit id =>
   obtain⟨hk3,hi3⟩:=hp;obtain⟨hr,⟨o,hl3,ho⟩,hl4,hk4⟩:=fin (some (.exit id)) W3 hk3;exact⟨_,_,hr,.inr ⟨rfl,.exit id,(hIx _).putObj _ hi3 (by omega) hl3 ho,hl4,hk4⟩⟩
  | goto t =>
   obtain⟨hk3,hi3⟩:=hp;obtain⟨hr,⟨o,hl3,ho⟩,hl4,hk4⟩:=fin (some (.goto t)) W3 hk3;exact⟨_,_,hr,.inr ⟨rfl,.goto t,(hIx _).putObj _ hi3 (by omega) hl3 ho,hl4,hk4⟩⟩
  | panic ch=>exact hp.elim
  | outgrown=>exact hp.elim
 case after =>
  have done:∀(W2:World) (st:LoopState) (pe:Option Code),st≠.busy->W2.heap[D+1]? = some (.loop (rec st pe))->(Instr.endLoop (D+1)).run P W2 = .ok pe (W2.putObj (D+1) (.loop (rec .exhausted pe))):=fun W2 st pe hst hl=>by
   have hr:=run_endLoop (P:=P) hl (by rw[kS];exact hst);rw[kS]at hr;rw[kS];exact hr
  rintro e W2 ⟨⟨v,rfl⟩,(⟨hi,hl,hk⟩|⟨pre,hpre,c,hi,hl,hk⟩)⟩
  ·exact⟨none,_,done W2 _ _ (by simp) hl,hdone D _ (Nat.le_refl _) (hI.putObj _ hi (by omega) hl rfl) (keep W2 _ D _ (by omega) hk)⟩
  ·exact⟨some c,_,done W2 _ _ (by simp) hl,hstop D c pre _ (Nat.le_refl _) hpre ((hIx c).putObj _ hi (by omega) hl rfl) (keep W2 _ D _ (by omega) hk)⟩
end Yx

namespace St
open Go.RowKit Mem Tr Yx
open Go.Proofs.YtmmmghpimdfleaaGreatDoor.Own
attribute [local go_sem] Oper.semAt_some
/-- does a record TU to a path that is not its zeO -/
def fE(p:ByteArray)(r:Rec):Bool:=decide (r.path≠p)&&r.refs.any (fun q=>decide (q=p))
def gZ(rs:List Rec)(p:ByteArray):List ByteArray:=(rs.filter (fE p)).map Rec.path
def OB(w:World)(rs:List Rec)(p:ByteArray)(e:Ending)(w':World):Prop :=
 Below w.heap.size w w'/\match aJ.has rs p with
 | true=>∃v,e = .returned (.tuple #[v,.int .i64 0])/\w'.ownsRow w.heap.size 9 1 v (gZ rs p).length ((gZ rs p).map .string)
 | false=>e = .returned (.tuple #[.slice none 0 0,.int .i64 3])

section
variable {P : Program}
theorem qi{F:Fence}{n:Nat}{ops:Array Oper}{rest:List Oper}{op:Oper}{a:Act}{w:World}{Q:Exit->Act->World->Prop}(hgd:op.guard=none)(ty:TypeId)(x y:Operand)(ho:op.op = .store ty x y)
 (b o:Nat) (cells:Array Value) (hx:a.eval x = .pointer (some ⟨b,o,none⟩)) (hy:a.eval y = .agg cells)
 (ht:w.there b o cells.size) (hi:(P.info? ty).map (·.size)=some cells.size) (h1:cells.all (·.oneCell')=true)
 (h:wpListIn F n P ops Q rest (a.put op.dst undef) (w.setCells b o cells.toList)):wpListIn F n P ops Q (op :: rest) a w:=by
 refine wpListIn_plain hgd fun K hK=>?_
 refine⟨fun f hf=>?_,?_⟩
 ·unfold Oper.about at hf;rw[ho]at hf;cases hf
 ·rw[Oper.semAt_plain F _ _ (fun c hc=>by rw[ho]at hc;cases hc)];unfold execOp;simp only[ho,hx,hy,Instr.storeAt,Instr.sureAddr,Sem.run_bind,Sem.run_pure,Result.andThen_ok,run_storeVar_mid w b o ty cells ht hi h1];exact hK _ _ h
end
theorem Jz(rs:List Rec)(r:Rec)(p:ByteArray):gZ (rs ++ [r]) p=gZ rs p++(if fE p r=true then[r.path]else[]):=by
 unfold gZ;rw[List.filter_append,List.map_append];congr 1;by_cases h:fE p r=true
 ·rw[if_pos h,List.filter_cons_of_pos h];rfl
 ·rw[if_neg h,List.filter_cons_of_neg h];rfl
/-- The blocks that a round of a loop may write that appends to the variable in block b6. -/
def xZ(b6:Nat)(A:World)(k:Nat):Prop:=A.heap.size<=b6∨k=b6∨∃v,A.cell? ⟨b6,0,none⟩=some v/\v.ownBlock=some k
theorem Ig(b6:Nat):∀A B:World,All.Mq A B->∀k,xZ b6 B k->xZ b6 A k:=by
 intro A B h k hk;unfold xZ at *;by_cases hb:A.heap.size<=b6
 ·exact .inl hb
 ·have hs:=Below.size h;rcases hk with h1|h1|⟨v,h1,h2⟩
  ·omega
  ·exact .inr (.inl h1)
  ·refine .inr (.inr ⟨v,?_,h2⟩);rw[←World.cell?_of_block (w:=A) (w':=B) (a:=⟨b6,0,none⟩) (Below.block h b6 (by omega))];exact h1
theorem OC(b6:Nat)(W:World)(l:Nat)(o':Obj)(hl:l≠b6)(k:Nat)(h:xZ b6 (W.putObj l o') k):xZ b6 W k:=by
 unfold xZ at *;rcases h with h1|h1|⟨v,h1,h2⟩
 ·exact .inl (by simpa using h1)
 ·exact .inr (.inl h1)
 ·refine .inr (.inr ⟨v,?_,h2⟩);rw[World.cell?_of_block (w:=W) (a:=⟨b6,0,none⟩) (World.putObj_heap_other (by first|exact hl|exact hl.symm))]at h1;exact h1
theorem Xu(b6:Nat)(W:World)(l:Nat)(o o':Obj)(hb:b6<l)(hl:W.heap[l]? = some o)(ho:o.isCells=false):All.Kq (xZ b6) W (W.putObj l o'):=by
 refine⟨by simp,fun k u hk hu hn=>?_,fun k hk=>.inl (OC b6 W l o' (by omega) k hk)⟩;rw[World.putObj_heap_other (fun e=>?_)]
 ·exact hk
 ·subst e;rw[hl]at hk;cases hk;rw[ho]at hu;cases hu
theorem xh(b6:Nat)(A B:World)(h:Below A.heap.size A B):All.Kq (xZ b6) A B :=
 ⟨h.size,fun k o hk _ _=>(h.block k (Array.getElem?_eq_some_iff.1 hk).1).trans hk,fun k hk=>.inl (Ig b6 A B h k hk)⟩
theorem Ih{w:World}{B B':Nat}{e:TypeId}{size:Nat}{v:Value}{n:Nat}{xs:List Value}(h:w.ownsRow B e size v n xs)(hB:B'<=B):w.ownsRow B' e size v n xs:=by
 obtain⟨h1,h2⟩:=h;refine⟨h1,h2.imp id ?_⟩;rintro⟨g,cap,cur,hv,hb,r⟩;exact⟨g,cap,cur,hv,by omega,r⟩
/-- What stands between two rounds. -/
def yg(w:World)(b6 base:Nat)(p:ByteArray)(pre:List (Rec × List Value))(W:World):Prop :=
 ∃v,Boxed W b6 27 v/\W.ownsRow base 9 1 v (gZ (pre.map (·.1)) p).length ((gZ (pre.map (·.1)) p).map .string)/\Boxed W w.heap.size 9 (.string p)/\Below w.heap.size w W/\base<=W.heap.size
theorem yg.grown{w:World}{b6 base:Nat}{p:ByteArray}{pre:List (Rec × List Value)}{W W':World}{row:Option Nat}(h:yg w b6 base p pre W)(hg:W.grownBy W' row)(hr:∀r,row=some r->base<=r/\∃o:Obj,W.heap[r]? = some o/\o.isCells=false)(h6:b6<base)(hwb:w.heap.size<base):yg w b6 base p pre W':=by
 obtain⟨v,h1,h2,h3,h4,h5⟩:=h;refine⟨v,h1.kept hg (fun e=>by have:=(hr _ e.symm).1;omega),h2.kept hg ?_,h3.kept hg (fun e=>by have:=(hr _ e.symm).1;omega),h4.grown hg h4.size (fun k e=>by have:=(hr k e).1;omega),Nat.le_trans h5 hg.size⟩;rcases h2.2 with⟨rfl,_⟩|⟨g,cap,cur,rfl,hb,hgb,_⟩
 ·exact .inl rfl
 ·refine .inr fun e'=>?_
  obtain⟨_,o,ho,hc⟩:=hr g (by simpa[Value.ownBlock]using e'.symm);rw[hgb]at ho;cases ho;cases hc
theorem yg.below{w:World}{b6 base:Nat}{p:ByteArray}{pre:List (Rec × List Value)}{W W':World}(h:yg w b6 base p pre W)(hb:Below W.heap.size W W'):yg w b6 base p pre W':=by
 obtain⟨v,h1,h2,h3,h4,h5⟩:=h;have hk:∀k,k<W.heap.size->W'.heap[k]? = W.heap[k]?:=fun k hk=>hb.block k hk
 exact⟨v,(hk _ h1.lt).trans h1,Copy.own_below h2 hb,(hk _ h3.lt).trans h3,h4.trans (hb.mono h4.size),Nat.le_trans h5 hb.size⟩
/-- 'out = append(out, s)': what the walk owes behind it. -/
theorem JA{w:World}{b6 base:Nat}{p:ByteArray}{pre':List (Rec × List Value)}{W1 w1:World}{v v':Value}{n:Nat}{xs:List Value}{tmp:Obj}
 (hv:Boxed W1 b6 27 v) (hrow:W1.ownsRow base 9 1 v n xs) (hp:Boxed W1 w.heap.size 9 (.string p)) (hB:Below w.heap.size w W1) (hz:base<=W1.heap.size) (h6:b6<base) (hw6:w.heap.size<b6)
 (hgrow:(W1.alloc tmp).grownBy w1 v.ownBlock) (hown:w1.ownsRow base 9 1 v' (gZ (pre'.map (·.1)) p).length ((gZ (pre'.map (·.1)) p).map .string)) (hat:v'.ownBlock=v.ownBlock∨v'.ownBlock=some (W1.alloc tmp).heap.size) :
 Boxed w1 b6 27 v/\KeepsOthers W1 (w1.setCell ⟨b6,0,none⟩ v')/\All.Kq (xZ b6) W1 (w1.setCell ⟨b6,0,none⟩ v')/\yg w b6 base p pre' (w1.setCell ⟨b6,0,none⟩ v'):=by
 have hnr:=hv.not_row (by decide) hrow;have hlt:∀k,v.ownBlock=some k->base<=k:=fun k hk=>(hrow.lt k hk).1
 have hv1:Boxed w1 b6 27 v:=(hv.alloc tmp).kept hgrow hnr;have l6:=hv.lt;have far:∀j,j<W1.heap.size->j≠b6->v.ownBlock≠some j->(w1.setCell ⟨b6,0,none⟩ v').heap[j]? = W1.heap[j]?:=fun j hj hne hno=>by
  rw[Below.heap_setCell _ _ _ _ hne,hgrow.block j (by simp;omega) (fun e=>hno e.symm),Below.heap_alloc _ _ _ (by omega)]
 have hset:=grownBy_setCell' w1 b6 v';have hs1:=hgrow.size;simp at hs1;have l1:b6<w1.heap.size:=(by omega);refine⟨hv1,?_,⟨by simp;omega,fun k o hk ho hn=>?_,fun k hk=>?_⟩,v',hv1.set v',hown.kept hset (.inr (hv1.not_row (by decide) hown).symm),(far _ (by omega) (by omega) (fun e=>by have:=hlt _ e;omega)).trans hp,?_,by simp;omega⟩
 ·refine((KeepsOthers.alloc W1 tmp).trans (KeepsOthers.of_grownBy hgrow fun j o ej hj=>?_)).trans (KeepsOthers.setCell _ _ _);rcases(hrow.alloc tmp).2 with⟨rfl,_⟩|⟨g,cap,cur,rfl,_,hgb,_⟩
  ·simp[Value.ownBlock]at ej
  ·obtain rfl:g=j:=(by simpa[Value.ownBlock]using ej);rw[hgb]at hj;cases hj;rfl
 ·have hkl:=(Array.getElem?_eq_some_iff.1 hk).1;rw[far k hkl (fun e=>hn (.inr (.inl e))) (fun e=>hn (.inr (.inr ⟨v,hv.cell,e⟩)))];exact hk
 ·rcases hk with h1|h1|⟨u,h1,h2⟩
  ·simp at h1;omega
  ·exact .inl (.inr (.inl h1))
  ·rw[(hv1.set v').cell]at h1;obtain rfl:v'=u:=(by simpa using h1);rcases hat with h|h
   ·exact .inl (.inr (.inr ⟨v,hv.cell,by rw[←h];exact h2⟩))
   ·rw[h]at h2;obtain rfl:=Option.some.inj h2;exact .inr (by simp)
 ·refine hB.trans (Kp.below (M:=fun k=>k=b6∨v.ownBlock=some k) ?_ hB.size (fun i hi e=>?_))
  ·exact(((Kp.refl _ W1).alloc tmp).then (Kp.fA hgrow (fun r e _=>.inr e))).setCell _ _ (fun _=>.inl rfl)
  ·rcases e with e|e
   ·omega
   ·have:=hlt _ e;omega
set_option maxRecDepth 20000 in
theorem qj(M F:Nat->Prop)(s:Nat)(rs:List Rec)(p:ByteArray)(w:World)(h:Is M F w s rs)(hn:rs.length<=1073741823) :
 Calls Tryz.prog 36 #[.pointer (some ⟨s,0,none⟩),.string p] w (OB w rs p):=by
 have hH:=fun w1 hb=>vT M F s rs p w1 (h.below hb) (by omega)
 obtain⟨⟨t,bs,ha⟩,hso⟩:=h;have HBS:=yH bs;have HA:=yH ha;clear bs ha;cases hB:aJ.has rs p with
 | false =>
  rw[hB]at hH
  go_enter Tryz.func36,Tryz.ntmps36
  go_wp2_with fail;refine ae fun w1 hw1=>?_
  obtain⟨b1,x1⟩:=af hw1;clear hw1 x1;refine(hH w1 b1).mono ?_;rintro e w2 ⟨rfl,b2⟩
  go_wp2_with fail
  go_ret2;exact⟨b1.trans (b2.mono b1.size),by rw[hB];rfl⟩
 | true =>
  rw[hB]at hH;refine(callsIn_wide (n:=5)).1 ?_;refine callsIn_of_wp_marks Tryz.func36 rfl trivial ?_ rfl;simp only[Tryz.ntmps36,List.size_toArray,List.length_cons,List.length_nil,Nat.reduceAdd,Nat.reduceSub,Array.replicate_succ,Array.replicate_zero,List.push_toArray,List.append_toArray,List.nil_append,List.cons_append]
  gi_wp2_with fail
  obtain⟨w1,hw1⟩:∃W,w.alloc (.cells #[.string p] 9)=W:=⟨_,rfl⟩;rw[hw1];obtain⟨b1,x1⟩:=af hw1;clear hw1;have X1:=yH x1;clear x1;refine⟨trivial,(callsIn_wide.2 (hH w1 b1)).mono ?_⟩;rintro e w2 ⟨rfl,b2⟩;have B2:=b1.trans (b2.mono b1.size);have c0:∀o,(w2.alloc o).cell? ⟨s,0,none⟩=some (.pointer (some ⟨t,0,none⟩)):=fun o=>Lib.cell?_alloc_some o ((HBS.out.below B2).cell 0)
  have ba:=Below.refl w2.heap.size w2
  gi_wp2_with fail
  obtain⟨w3,hw3⟩:∃W,w2.alloc (.cells #[.slice none 0 0] 27)=W:=⟨_,rfl⟩;rw[hw3];obtain⟨b3,x3⟩:=af hw3;clear hw3 c0;have B3:=B2.trans (b3.mono B2.size);refine⟨trivial,(callsIn_wide.2 (All.zdr t w3)).mono ?_⟩;rintro e w4 ⟨rfl,hw4⟩;obtain⟨b4,x4⟩:=af hw4.symm;clear hw4;have B4:=B3.trans (b4.mono B3.size);have x34:=x3.below b4;obtain⟨b6,hb6⟩:∃b6,w2.heap.size=b6:=⟨_,rfl⟩;obtain⟨bx,hbx⟩:∃bx,w3.heap.size=bx:=⟨_,rfl⟩;have lt6:=x34.lt;have ltx:=x4.lt;have l6x:=x3.lt;have zdA:w.heap.size<w2.heap.size:=Nat.lt_of_lt_of_le X1.out.lt b2.size;rw[hb6]at x34 lt6 l6x zdA ⊢;rw[hbx]at x4 ltx l6x ⊢;have XP4:=(X1.out.below b2).below (b3.trans (b4.mono b3.size));have hwl:=X1.out.lt;obtain⟨xs,exs,hxr,Xv⟩:=All.gives 4 (xZ b6) M F t bx rs w4 (HA.out.below B4) x4 (by omega) (Ig b6) (fun W hW k hk=>by
   rcases hk with h1|rfl|⟨v,h1,h2⟩
   ·have:=hW.size;omega
   ·have:=hW.size;omega
   ·rw[World.cell?_of_block (w:=w4) (a:=⟨b6,0,none⟩) (hW.block b6 lt6),x34.cell]at h1;obtain rfl:Value.slice none 0 0=v:=(by simpa using h1);cases h2)
  gi_wp2_with fail
  have hone:∀x∈xs,x.2.length=39:=fun x hx=>(hxr x hx).length
  refine FP (gf:=127) (lb:=#[.pointer (some ⟨bx,0,none⟩)]) rfl (enters_of Tryz.func127 (by kernel_rfl) rfl) Xv
   (fun A B hm k o hk ho hc=>(Below.block hm k (Array.getElem?_eq_some_iff.1 ho).1).trans ho)
   (fun h1 h2=>All.Kq.trans h1 h2)
   (fun W l o o' hl ho hc=>Xu b6 W l o o' (by omega) ho hc)
   (fun x=>rfl)
   (yg w b6 w4.heap.size p) (fun _ _ _=>False) ?hI (fun c s A B row h=>h.elim) ?mI (fun c s A B h=>h.elim)
   ⟨.slice none 0 0,x34,World.ownsRow_nil _ _ _ _,XP4,B4,Nat.le_refl _⟩
   (fun x a W=>∃b8 zs,Bx W b8 zs 31/\W.rangeAt b8 0 x.2/\a = { tmps:=#[.pointer (some ⟨s,0,none⟩),.string p,undef,.pointer (some ⟨w.heap.size,0,none⟩),.slice none 0 0,.int .i64 0,.pointer (some ⟨b6,0,none⟩),.string x.1.path,.pointer (some ⟨b8,0,none⟩),.pointer (some ⟨s,0,none⟩),.string p,.bool true,.bool false,.pointer (some ⟨s,0,none⟩),.pointer (some ⟨s,0,none⟩),.pointer (some ⟨s,0,none⟩),.pointer (some ⟨t,0,none⟩),.func (.func 127) #[] #[.pointer (some ⟨bx,0,none⟩)],.string x.1.path,.agg x.2.toArray,undef,undef,undef,undef,undef,undef,undef,undef,undef,undef,undef,undef,undef,undef],defers:=[] }) ?hA
   (fun A B h=>xh b6 A B h) ?assign ?body ?done ?stop
  case hI=>exact fun pre A B row h hg hr=>h.grown hg hr (by omega) (by omega)
  case mI=>exact fun pre A B h hm=>h.below hm
  case hA =>
   rintro x a W l' o o' hl ho hc ⟨b8,zs,hz,hrg,rfl⟩;have hne:b8≠l':=fun e=>by subst e;unfold Bx at hz;rw[hz]at ho;cases ho;cases hc
   exact⟨b8,zs,(World.putObj_heap_other (by first|exact hne|exact hne.symm)).trans hz,fun j u hj=>(World.cell?_of_block (w:=W) (a:=⟨b8,0+j,none⟩) (World.putObj_heap_other (by first|exact hne|exact hne.symm))).trans (hrg j u hj),rfl⟩
  case assign =>
   intro l x W K hx hK;have hl:=hone x hx;have hoc:=Tab.dX (hxr x hx);unfold All.encs
   gi_wp2_with (refine qi (by rfl) 31 _ _ (by rfl) W.heap.size 0 x.2.toArray (by rfl) (by rfl) ?s4 ?s5 ?s6 ?_;rotate_right;refine Mem.named ?_;intro W1 hW1)
   case s4=>exact(Bx.new W Ins.ah.cells 31).there 39 rfl
   case s5 =>
    obtain⟨i0,hi0,_,hz1,_⟩:=info_parts Ins.fO;exact⟨i0,hi0,hz1⟩
   case s6=>exact hoc
   have hW2:(W.alloc (.cells Ins.ah.cells 31)).setCells W.heap.size 0 x.2=W1:=hW1;obtain⟨zs,hz,_⟩:=bH x.2 0 _ (Bx.new W Ins.ah.cells 31);rw[hW2]at hz;exact hK _ _ (aX hW2) ⟨W.heap.size,zs,hz,aZ hW2 (by rw[hl];rfl),rfl⟩
  case body =>
   rintro l pre x W a1 hI hpre ⟨b8,zs,hz,hrg,rfl⟩;have hpx:x∈xs:=hpre.subset (by simp);have hr0:=hxr x hpx;obtain⟨kv,rv,hcs,hh,hk,hrr⟩:=hr0;have hcl:=hone x hpx;obtain⟨q0,q1,q2,q3,q4,q5⟩:=fJ hcs.symm hcl hh;have hI0:=hI;obtain⟨v,hv,hrow,hp,hB',hz'⟩:=hI;have hag:Ag F w4 W:=fun k hkF hk4=>by
    have:=HA.out.uC k hkF;rw[hB'.block k this,B4.block k this]
   have hrd:=(hrr.ag hag).reads;have g5:W.cell? ⟨b8,5,none⟩=some rv:=by
    have:=hrg 5 rv (by rw[List.getElem?_eq_getElem (by omega),q5])
    simpa using this
   have dp:W.cell? ⟨w.heap.size,0,none⟩=some (.string p):=hp.cell;have He:=yH (show gZ ((pre ++ [x]).map (·.1)) p=gZ (pre.map (·.1)) p++(if fE p x.1=true then[x.1.path]else[]) by rw[List.map_append];exact Jz _ _ _);have HI0:=yH hI0;have Ui:fE p x.1=false->yg w b6 w4.heap.size p (pre ++ [x]) W:=fun h=>by
    obtain⟨v,h1,h2,h3⟩:=HI0.out;have hs:=He.out;rw[h,if_neg (by decide),List.append_nil]at hs;refine⟨v,h1,?_,h3⟩;rw[hs];exact h2
   have HSK:=yH Ui;clear Ui hI0 hcs hk q1 q2 q3 q4 q5 q0 hcl hrg hz;obtain⟨xp,hxp⟩:∃xp,x.1.path=xp:=⟨_,rfl⟩;rw[hxp]at He ⊢;have HXP:=yH hxp;clear hxp;by_cases h1:xp=p
   ·have t1:(xp.toList==p.toList)=true:=(by rw[Eq.bytes_beq];exact decide_eq_true h1);have HR:=yH (show fE p x.1=false by unfold fE;rw[HXP.out,decide_eq_false (by simpa using h1)];rfl);clear h1
    gi_wp2_with fail
    refine⟨trivial,?_⟩
    gi_wp2_with fail
    exact⟨KeepsFrom.refl _ _,xh b6 W W (Below.refl _ _),HSK.out HR.out⟩
   ·have t1:(xp.toList==p.toList)=false:=(by rw[Eq.bytes_beq];exact decide_eq_false h1);have H1:=yH h1;obtain⟨ao9,zeP,zdB⟩:=hrd.shape;subst zdB;clear h1
    gi_wp2_with fail
    refine⟨trivial,(CallsIn.inRound l (callsIn_wide.2 (Sl.su _ x.1.refs p W hrd))).mono ?_⟩;rintro e W2 ⟨bb,rfl,hbb,rfl⟩;have HR:Hid (fE p x.1=bb):=yH (by
     unfold fE;rw[HXP.out,decide_eq_true H1.out,Bool.true_and];rw[Bool.eq_iff_iff,hbb,List.any_eq_true];simp)
    clear hbb;cases bb with
    | false =>
     gi_wp2_with fail
     exact⟨KeepsFrom.refl _ _,xh b6 _ _ (Below.refl _ _),HSK.out HR.out⟩
    | true =>
     have hs:=He.out;rw[HR.out,if_pos rfl]at hs;have HS:=yH hs;clear hs;have d6:W2.cell? ⟨b6,0,none⟩=some v:=hv.cell;have hln:(gZ (pre.map (·.1)) p).length+1<=1073741824:=(by have h1:(gZ (pre.map (·.1)) p).length<=pre.length:=(by unfold gZ;rw[List.length_map];exact Nat.le_trans (List.length_filter_le _ _) (by simp));have h2:=hpre.length_le;have h3:xs.length=rs.length:=(by rw[←exs,List.length_map]);simp at h2;omega);obtain⟨i0,hi,hz0,hz1,hz2⟩:=info_parts Make.bI
     gi_wp2_with (gi_at_builtin;refine wpListIn_append_own_at _ rfl _ _ 27 rfl w4.heap.size 9 i0 (.string ⟨#[]⟩) 1 16 Tryz.underlying27 hi hz0 hz1 hz2 rfl (by decide) _ _ _ rfl (hrow.alloc _) ⟨W2.heap.size,0,none⟩ 1 1 [.string xp] rfl rfl (cell_one_new _ _ _) (by simp[Value.oneCell']) (by unfold maxLen;omega) (by omega) (by simp;omega) ?_;intro v' w1 hown' hgrow hnil hat';obtain⟨g',cap',rfl⟩:=ownsRow_succ hown';obtain⟨hv1,k1,k2,k3⟩:=JA (pre':=pre ++ [x]) hv hrow hp hB' hz' (by omega) (by omega) hgrow (by have hs:=HS.out;rw[hs];simpa using hown') hat';have K1:=yH k1;have K2:=yH k2;have K3:=yH k3;clear k1 k2 k3 hgrow hown' hnil hat';have d6':=hv1.cell;have f6':=hv1.frozen)
     exact⟨K1.out.from _,K2.out,K3.out⟩
  case done =>
   rintro D W hD hI hK;unfold yg at hI;rw[exs]at hI;obtain⟨v,hv,hrow,hp,hB',hz'⟩:=hI;have d6:W.cell? ⟨b6,0,none⟩=some v:=hv.cell;obtain⟨ao,n,cap,rfl⟩:∃ao n cap,v = .slice ao n cap:=by
    rcases hrow.2 with⟨hv,_⟩|⟨g,cap,cur,hv,_⟩
    ·exact⟨_,_,_,hv⟩
    ·exact⟨_,_,_,hv⟩
   gi_wp2_with fail
   refine⟨by simp,.inl ⟨_,_,rfl,run_takeDeferred hK,?_⟩⟩;have b9:=hB'.trans ((Below.refl w.heap.size W).grown (grownBy_putObj' W D (.deferred none)) (by have:=hB'.size;omega) (fun k e=>by cases e;have:=b3.size;have:=b2.size;omega));refine⟨.tuple #[.slice ao n cap,.int .i64 0],?_,b9,?_⟩
   ·simp[results,Tryz.f36,go_sem]
   ·rw[hB];exact⟨_,rfl,Ih (ownsRow_putObj hrow (.deferred none) hK rfl) (by omega)⟩
  case stop=>exact fun D c pre W hD hp h=>h.elim
end St
end Go.Proofs.YtmmmghpimdfleaaGreatDoor
