/-
  tree.walk, Check.
  wire.Text; nar.writer.words, node; nar.MB.
  nar.writer.node, nar.MB.
-/
import Derived.Test.YtmmmghpimdfleaaGreatDoorTk
import Derived.Test.YtmmmghpimdfleaaGreatDoorGrpD
import Derived.Defers
import Derived.Recover
import Derived.RegionTactic
import Derived.Test.YtmmmghpimdfleaaGreatDoorGrpE
import Derived.Deep.RegionHeld3
set_option linter.unusedVariables false
set_option maxHeartbeats 2000000
namespace Go.Proofs.YtmmmghpimdfleaaGreatDoor
namespace wF
open Go.RowKit Mem Tr lK jB Name jC
def cO(k:Int)(ex:Bool)(t:ByteArray)(ks:Tr.Kids):ByteArray × Int × Nat :=
 match au ⟨#[]⟩ 1 k ex t ks (aj [⟨#[100,101,112,111,116,45,97,114,99,104,105,118,101,45,49]⟩])with
 | .ok n=>(⟨#[]⟩,0,n)
 | .bad q c=>(q,c,0)
theorem Jn(q:ByteArray)(c:Int)(w:World):(Instr.typeAssert (.iface 245 (.agg #[.string q,.int .i64 c])) 20 245 true).run Tryz.prog w = .ok (.tuple #[.agg #[.string q,.int .i64 c],.bool true]) w:=by kernel_rfl
theorem Jo(w:World):(Instr.typeAssert .nilIface 20 245 true).run Tryz.prog w = .ok (.tuple #[.agg #[.string ⟨#[]⟩,.int .i64 0],.bool false]) w:=by kernel_rfl
theorem caught{r0 r1 r2:Nat}{v0 v1 v2:Value}{t0 t1 t2:TypeId}{w:World}(h0:Bx w r0 #[v0] t0)(h1:Bx w r1 #[v1] t1)(h2:Bx w r2 #[v2] t2)(n01:r0≠r1)(n02:r0≠r2)(n12:r1≠r2)(u0 u1 u2:Value)(o:Obj) :
 let W:=((((w.setCell ⟨r0,0,none⟩ u0).setCell ⟨r1,0,none⟩ u1).setCell ⟨r2,0,none⟩ u2).alloc o).drew
 Bx W r0 #[u0] t0/\Bx W r1 #[u1] t1/\Bx W r2 #[u2] t2/\Kp (fun i=>i=r0∨i=r1∨i=r2) w W:=by
 have a0:=(((h0.set 0 u0).aH (p:=⟨r1,0,none⟩) u1 n01).aH (p:=⟨r2,0,none⟩) u2 n02).alloc o;have a1:=(((h1.aH (p:=⟨r0,0,none⟩) u0 n01.symm).set 0 u1).aH (p:=⟨r2,0,none⟩) u2 n12).alloc o;have a2:=(((h2.aH (p:=⟨r0,0,none⟩) u0 n02.symm).aH (p:=⟨r1,0,none⟩) u1 n12.symm).set 0 u2).alloc o;have k:=((((Kp.refl (fun i=>i=r0∨i=r1∨i=r2) w).setCell ⟨r0,0,none⟩ u0 (fun _=>.inl rfl)).setCell ⟨r1,0,none⟩ u1 (fun _=>.inr (.inl rfl))).setCell ⟨r2,0,none⟩ u2 (fun _=>.inr (.inr rfl))).alloc o;exact⟨a0.kept rfl,a1.kept rfl,a2.kept rfl,⟨k.os,k.tape,k.output,k.size,k.block⟩⟩
theorem stored{r0 r1 r2:Nat}{v0 v1 v2:Value}{t0 t1 t2:TypeId}{w:World}(h0:Bx w r0 #[v0] t0)(h1:Bx w r1 #[v1] t1)(h2:Bx w r2 #[v2] t2)(n01:r0≠r1)(n02:r0≠r2)(n12:r1≠r2)(u0 u1 u2:Value) :
 let W:=(((w.setCell ⟨r0,0,none⟩ u0).setCell ⟨r1,0,none⟩ u1).setCell ⟨r2,0,none⟩ u2).drew
 Bx W r0 #[u0] t0/\Bx W r1 #[u1] t1/\Bx W r2 #[u2] t2/\Kp (fun i=>i=r0∨i=r1∨i=r2) w W:=by
 have a0:=(((h0.set 0 u0).aH (p:=⟨r1,0,none⟩) u1 n01).aH (p:=⟨r2,0,none⟩) u2 n02);have a1:=(((h1.aH (p:=⟨r0,0,none⟩) u0 n01.symm).set 0 u1).aH (p:=⟨r2,0,none⟩) u2 n12);have a2:=(((h2.aH (p:=⟨r0,0,none⟩) u0 n02.symm).aH (p:=⟨r1,0,none⟩) u1 n12.symm).set 0 u2);have k:=((((Kp.refl (fun i=>i=r0∨i=r1∨i=r2) w).setCell ⟨r0,0,none⟩ u0 (fun _=>.inl rfl)).setCell ⟨r1,0,none⟩ u1 (fun _=>.inr (.inl rfl))).setCell ⟨r2,0,none⟩ u2 (fun _=>.inr (.inr rfl)));exact⟨a0.kept rfl,a1.kept rfl,a2.kept rfl,⟨k.os,k.tape,k.output,k.size,k.block⟩⟩
theorem Wv(r0 r1 r2:Nat)(q:ByteArray)(c:Int)(s0:ByteArray)(s1 s2:Int)(w:World)(h0:Bx w r0 #[.string s0] 9)(h1:Bx w r1 #[.int .i64 s1] 35)(h2:Bx w r2 #[.int .i64 s2] 3)(n01:r0≠r1)(n02:r0≠r2)(n12:r1≠r2) :
 CallsD Tryz.prog 186 #[.pointer (some ⟨r0,0,none⟩),.pointer (some ⟨r1,0,none⟩),.pointer (some ⟨r2,0,none⟩)] (.panicking ({ v:=off q c,recovered:=false } :: [])) w fun e u' w' =>
  e = .returned (.tuple #[])/\u' = .panicking ({ v:=off q c,recovered:=true } :: [])/\Bx w' r0 #[.string q] 9/\Bx w' r1 #[.int .i64 c] 35/\Bx w' r2 #[.int .i64 0] 3/\Kp (fun i=>i=r0∨i=r1∨i=r2) w w':=by
 refine callsD_of_wpS Tryz.func186 rfl fun c₀ cs hu=>?_
 simp only[Tryz.ntmps186,List.size_toArray,List.length_cons,List.length_nil,Nat.reduceAdd,Nat.reduceSub,Array.replicate_succ,Array.replicate_zero,List.push_toArray,List.append_toArray,List.nil_append,List.cons_append];have ha:=Jn q c;apply wpS_seq;apply wpS_region;simp[wpOpsS,go_sem,recoverD,hu,Exit.thenS,off,ha];have c0:w.cell? ⟨r0,0,none⟩=some (.string s0):=h0.cell 0;have c1:w.cell? ⟨r1,0,none⟩=some (.int .i64 s1):=h1.cell 0;have c2:w.cell? ⟨r2,0,none⟩=some (.int .i64 s2):=h2.cell 0;have f0:=h0.frozen 0;have f1:=h1.frozen 0;have f2:=h2.frozen 0;have l0:=h0.lt;have l1:=h1.lt;have l2:=h2.lt;have e0:r0≠w.heap.size:=(by omega);have e1:r1≠w.heap.size:=(by omega);have e2:r2≠w.heap.size:=(by omega);refine wpS_of_wp ?_
 go_wp2
 go_region
 all_goals
  go_wp2;simp[bodyPostS,results,Tryz.results186];exact caught h0 h1 h2 n01 n02 n12 _ _ _ _
theorem Wx(r0 r1 r2:Nat)(w:World) :
 CallsD Tryz.prog 186 #[.pointer (some ⟨r0,0,none⟩),.pointer (some ⟨r1,0,none⟩),.pointer (some ⟨r2,0,none⟩)] .returning w fun e u' w' =>
  e = .returned (.tuple #[])/\u' = .returning/\Below w.heap.size w w':=by
 refine callsD_of_wpS Tryz.func186 rfl fun c₀ cs hu=>?_
 simp only[Tryz.ntmps186,List.size_toArray,List.length_cons,List.length_nil,Nat.reduceAdd,Nat.reduceSub,Array.replicate_succ,Array.replicate_zero,List.push_toArray,List.append_toArray,List.nil_append,List.cons_append];have ha:=Jo;apply wpS_seq;apply wpS_region;simp[wpOpsS,go_sem,recoverD,hu,Exit.thenS,ha];refine wpS_of_wp ?_
 go_wp2
 all_goals
  cases c₀
  simp_all [bodyPostS,results,Tryz.results186]
  exact(Below.refl _ w).alloc (Nat.le_refl _) _
theorem za3:∀(fn:Fn) (first cap:Array Value) (w:World),(Instr.makeFunc fn first cap).run Tryz.prog w = .ok (.func fn first cap) w:=fun _ _ _ _=>rfl
set_option maxRecDepth 100000 in
theorem za4(S:Nat->Prop)(k:Int)(ex:Bool)(t:ByteArray)(kv:Value)(ks:Tr.Kids)(w:World)(hk:ay S w kv ks)(hS:∀i,S i->i<w.heap.size)(hb:ks.bulk<=4194304)(ht:t.size<=4194304) :
 Calls Tryz.prog 147 #[.agg #[.int .i64 k,.bool ex,.string t,kv]] w fun e w'=>e = .returned (.tuple #[.string (cO k ex t ks).1,.int .i64 (cO k ex t ks).2.1,.int .i64 ((cO k ex t ks).2.2:Nat)])/\Below w.heap.size w w':=by
 have hmf:=za3;obtain⟨ao,cap,rfl,hcl,hcm,hel⟩:=hk
 go_enter_defers Tryz.func147,Tryz.ntmps147
 go_wp2_with fail;refine ae fun w1 hw1=>?_
 have hz:w1.heap.size=w.heap.size+5:=(by rw[←hw1];simp);have B1:Below w.heap.size w w1:=(by rw[←hw1];exact(((((Below.refl _ w).alloc (Nat.le_refl _) _).alloc (by simp) _).alloc (by simp;omega) _).alloc (by simp;omega) _).alloc (by simp;omega) _);have y0:Bx w1 w.heap.size #[.int .i64 k,.bool ex,.string t,.slice ao ks.len cap] 26:=(by rw[←hw1];exact((((Bx.new w _ _).alloc _).alloc _).alloc _).alloc _);have y1:Bx w1 (w.heap.size+1) #[.string ⟨#[]⟩] 9:=(by have:=Bx.new (w.alloc (.cells #[.int .i64 k,.bool ex,.string t,.slice ao ks.len cap] 26)) #[.string ⟨#[]⟩] 9;rw[World.size_alloc]at this;rw[←hw1];exact((this.alloc _).alloc _).alloc _);have y2:Bx w1 (w.heap.size+1+1) #[.int .i64 0] 35:=(by have:=Bx.new ((w.alloc (.cells #[.int .i64 k,.bool ex,.string t,.slice ao ks.len cap] 26)).alloc (.cells #[.string ⟨#[]⟩] 9)) #[.int .i64 0] 35;rw[World.size_alloc,World.size_alloc]at this;rw[←hw1];exact(this.alloc _).alloc _);have y3:Bx w1 (w.heap.size+1+1+1) #[.int .i64 0] 3:=(by have:=Bx.new (((w.alloc (.cells #[.int .i64 k,.bool ex,.string t,.slice ao ks.len cap] 26)).alloc (.cells #[.string ⟨#[]⟩] 9)).alloc (.cells #[.int .i64 0] 35)) #[.int .i64 0] 3;rw[World.size_alloc,World.size_alloc,World.size_alloc]at this;rw[←hw1];exact this.alloc _);have y4:Bx w1 (w.heap.size+1+1+1+1) #[.string ⟨#[100,101,112,111,116,45,97,114,99,104,105,118,101,45,49]⟩] 9:=(by have:=Bx.new ((((w.alloc (.cells #[.int .i64 k,.bool ex,.string t,.slice ao ks.len cap] 26)).alloc (.cells #[.string ⟨#[]⟩] 9)).alloc (.cells #[.int .i64 0] 35)).alloc (.cells #[.int .i64 0] 3)) #[.string ⟨#[100,101,112,111,116,45,97,114,99,104,105,118,101,45,49]⟩] 9;rw[World.size_alloc,World.size_alloc,World.size_alloc,World.size_alloc]at this;rw[←hw1];exact this)
 have HZ:=yH hz;clear hw1 hz;refine(kH _ 1 _ [⟨#[100,101,112,111,116,45,97,114,99,104,105,118,101,45,49]⟩] _ y4 rfl (by decide) (by simp[aB,bsize])).mono ?_;rintro e w1' ⟨rfl,rfl⟩;have hm0:=bM [⟨#[100,101,112,111,116,45,97,114,99,104,105,118,101,45,49]⟩];simp[aB,bsize]at hm0;generalize hm:aj [⟨#[100,101,112,111,116,45,97,114,99,104,105,118,101,45,49]⟩]=m0 at *;have HM:=yH hm;clear hm;have a0:w1.cell? ⟨w.heap.size,0,none⟩=some (.int .i64 k):=y0.cell 0;have a1:w1.cell? ⟨w.heap.size,1,none⟩=some (.bool ex):=y0.cell 1;have a2:w1.cell? ⟨w.heap.size,2,none⟩=some (.string t):=y0.cell 2;have a3:w1.cell? ⟨w.heap.size,3,none⟩=some (.slice ao ks.len cap):=y0.cell 3;have hl:=y0.lt;have l1:=y1.lt;have l2:=y2.lt;have l3:=y3.lt
 go_wp2_with fail;refine ae fun w2 hw2=>?_
 obtain⟨b2,x2⟩:=af hw2;clear hw2 a0 a1 a2 a3;have hkw:ay S w (.slice ao ks.len cap) ks:=⟨ao,cap,rfl,hcl,hcm,hel⟩;have hk2:=(hkw.below B1).below b2;have z1:=y1.below b2;have z2:=y2.below b2;have z3:=y3.below b2;have B2:=B1.trans (b2.mono B1.size);have hle2:=B2.size;have Vj:=b2.size;have zeC:=B1.size;refine(LH S w1.heap.size (fun h=>by have:=hS _ h;omega) (ks.bulk+1) ks (by omega) ⟨#[]⟩ 1 k ex t _ m0 w2 hk2 x2 (by omega) (by omega) (by omega) (by simp[bsize];omega) (by omega)).mono ?_;intro e w3 hpost;have hwk:cO k ex t ks=match au ⟨#[]⟩ 1 k ex t ks m0 with | .ok n=>(⟨#[]⟩,0,n) | .bad q c=>(q,c,0):=(by unfold cO;rw[HM.out])
 cases hnr:au ⟨#[]⟩ 1 k ex t ks m0 with
 | bad q c =>
  rw[hnr]at hpost hwk;obtain⟨rfl,xH⟩:=hpost;have HW:=yH hwk;clear hnr hwk;have v1:=z1.kp xH (by omega);have v2:=z2.kp xH (by omega);have v3:=z3.kp xH (by omega);have B3:Below w.heap.size w w3:=B2.trans (xH.below hle2 (fun i hi=>by omega))
  go_wp2_with fail;refine leaves_cons (f:=186) (args:=#[.pointer (some ⟨w.heap.size+1,0,none⟩),.pointer (some ⟨w.heap.size+1+1,0,none⟩),.pointer (some ⟨w.heap.size+1+1+1,0,none⟩)]) (by simp) (by simp[go_sem]) ?_;refine(Wv _ _ _ q c _ _ _ _ v1 v2 v3 (by omega) (by omega) (by omega)).mono ?_;rintro e u' w4 ⟨rfl,rfl,u1,u2,u3,PK⟩;have g1:w4.cell? ⟨w.heap.size+1,0,none⟩=some (.string q):=u1.cell 0;have g2:w4.cell? ⟨w.heap.size+1+1,0,none⟩=some (.int .i64 c):=u2.cell 0;have g3:w4.cell? ⟨w.heap.size+1+1+1,0,none⟩=some (.int .i64 0):=u3.cell 0;have B4:Below w.heap.size w w4:=B3.trans (PK.below B3.size (fun i hi=>by omega));simp[Leaves,settle,results,Tryz.results147,go_sem,g1,g2,g3];rw[HW.out];exact⟨⟨rfl,rfl,rfl⟩,B4⟩
 | ok n =>
  rw[hnr]at hpost hwk;obtain⟨rfl,hx3,hn3,xH⟩:=hpost;have HW:=yH hwk;clear hnr hwk;have v1:=z1.kp xH (by omega);have v2:=z2.kp xH (by omega);have v3:=z3.kp xH (by omega);have B3:Below w.heap.size w w3:=B2.trans (xH.below hle2 (fun i hi=>by omega));have p0:w3.cell? ⟨w1.heap.size,0,none⟩=some (.int .i64 (n:Int)):=hx3.cell 0;have p1:w3.cell? ⟨w.heap.size+1,0,none⟩=some (.string ⟨#[]⟩):=v1.cell 0;have p2:w3.cell? ⟨w.heap.size+1+1,0,none⟩=some (.int .i64 0):=v2.cell 0;have p3:w3.cell? ⟨w.heap.size+1+1+1,0,none⟩=some (.int .i64 0):=v3.cell 0;have f1:=v1.frozen 0;have f2:=v2.frozen 0;have f3:=v3.frozen 0;have n1:w.heap.size+1≠w1.heap.size:=(by omega);have n2:w.heap.size+1+1≠w1.heap.size:=(by omega);have n3:w.heap.size+1+1+1≠w1.heap.size:=(by omega)
  go_wp2_with fail
  go_region
  all_goals
   go_wp2;refine leaves_cons (f:=186) (args:=#[.pointer (some ⟨w.heap.size+1,0,none⟩),.pointer (some ⟨w.heap.size+1+1,0,none⟩),.pointer (some ⟨w.heap.size+1+1+1,0,none⟩)]) (by simp) (by simp[go_sem]) ?_;refine(Wx _ _ _ _).mono ?_;rintro e u' w4 ⟨rfl,rfl,b4⟩;obtain⟨c1,c2,c3,kc⟩:=stored v1 v2 v3 (by omega) (by omega) (by omega) (.string ⟨#[]⟩) (.int .i64 0) (.int .i64 (n:Int));have u1:=c1.below b4;have u2:=c2.below b4;have u3:=c3.below b4;have B4:Below w.heap.size w w4:=(B3.trans (kc.below B3.size (fun i hi=>by omega))).trans (b4.mono (by have:=B3.size;simp;omega));have g1:w4.cell? ⟨w.heap.size+1,0,none⟩=some (.string ⟨#[]⟩):=u1.cell 0;have g2:w4.cell? ⟨w.heap.size+1+1,0,none⟩=some (.int .i64 0):=u2.cell 0;have g3:w4.cell? ⟨w.heap.size+1+1+1,0,none⟩=some (.int .i64 (n:Int)):=u3.cell 0;clear c1 c2 c3 kc u1 u2 u3 b4;simp[Leaves,settle,results,Tryz.results147,go_sem,g1,g2,g3];rw[HW.out];exact⟨⟨rfl,rfl,rfl⟩,B4⟩
theorem zG(S:Nat->Prop)(k:Int)(ex:Bool)(t:ByteArray)(kv:Value)(ks:Tr.Kids)(w:World)(hk:ay S w kv ks)(hS:∀i,S i->i<w.heap.size)(hb:ks.bulk<=4194304)(ht:t.size<=4194304) :
 Calls Tryz.prog 107 #[.agg #[.int .i64 k,.bool ex,.string t,kv]] w fun e w'=>e = .returned (.tuple #[.string (cO k ex t ks).1,.int .i64 (cO k ex t ks).2.1])/\Below w.heap.size w w':=by
 obtain⟨ao,cap,hkv,hcl,hcm,hel⟩:=id hk;subst hkv
 go_enter Tryz.func107,Tryz.ntmps107
 go_wp2_with fail;refine ae fun w0 hw0=>?_
 obtain⟨b0,x0⟩:=af hw0;clear hw0;refine(za4 S k ex t _ ks w0 (hk.below b0) (fun i hi=>by have:=hS i hi;have:=b0.size;omega) hb ht).mono ?_;rintro e w1 ⟨rfl,b1⟩
 go_wp2_with fail
 go_ret2;exact⟨rfl,b0.trans (b1.mono b0.size)⟩
end wF

namespace J4
open Go.RowKit Mem Tr lK jB Name jC wF MH
def word(l:List UInt8):List UInt8:=Rep.oO l.length++l++List.replicate ((8-l.length % 8) % 8) 0
def words:List ByteArray->List UInt8
 | []=>[]
 | s :: r=>word s.data.toList++words r
theorem Aq(a b:List ByteArray):aB (a++b)=aB a+aB b:=by
 induction a with
 | nil=>simp[aB]
 | cons s r ih=>simp only[List.cons_append,aB,ih];omega
theorem Ar(a b:List ByteArray):words (a++b)=words a++words b:=by
 induction a with
 | nil=>rfl
 | cons s r ih=>simp only[List.cons_append,words,ih,List.append_assoc]
theorem uh(l:List UInt8):(word l).length<=l.length+15:=by
 unfold word;simp only[List.length_append,Rep.fC,List.length_replicate];omega
theorem aP(l:List ByteArray):(words l).length<=aB l+15*l.length:=by
 induction l with
 | nil=>simp[words]
 | cons s r ih =>
  have:=uh s.data.toList;have h2:s.data.toList.length=s.size:=(by simp);simp only[words,List.length_append,aB,List.length_cons];omega
theorem GV(s:ByteArray)(w:World)(hs:s.size<=1099511627776) :
 Calls Tryz.prog 148 #[.string s] w fun e w'=>e = .returned (.string ⟨(word s.data.toList).toArray⟩)/\Below w.heap.size w w':=by
 have e0:(0:Int)<=(s.size:Int):=(by omega);have e1:((s.size:Int)<=9223372036854775807):=(by omega)
 go_enter Tryz.func148,Tryz.ntmps148
 go_wp2_with fail;refine(Rep.Va s.size _ (by omega)).mono ?_;rintro e w1 ⟨rfl,b1⟩;obtain⟨L,hL⟩:∃L:ByteArray,(⟨(Rep.oO s.size).toArray⟩:ByteArray)=L:=⟨_,rfl⟩;have hLs:L.size=8:=(by rw[←hL];simp[bsize,Rep.fC]);rw[hL];have HL:=yH hL;have hb1:L.size+s.size<=9223372036854775807:=(by omega);have hb2:L.size<=8:=(by omega);have hb3:8<=L.size:=(by omega);clear hL hLs;obtain⟨m,hm⟩:∃m,(8-s.size % 8) % 8=m:=⟨_,rfl⟩;have hm7:m<=7:=(by omega);have hmi:(8-(s.size:Int) % 8) % 8=(m:Int):=(by omega);have HM:=yH hm;clear hm
 go_wp2_with fail;refine(Rep.Q3 m hm7 _).mono ?_;rintro e w2 ⟨rfl,b2⟩;obtain⟨Z,hZ⟩:∃Z:ByteArray,(⟨(List.replicate m (0:UInt8)).toArray⟩:ByteArray)=Z:=⟨_,rfl⟩;have hZs:Z.size<=7:=(by rw[←hZ];simp[bsize];exact hm7);rw[hZ];have HZ:=yH hZ;have hb4:L.size+s.size+Z.size<=9223372036854775807:=(by omega);clear hZ
 go_wp2_with fail
 go_ret;refine⟨PZ (congrArg Value.string (Lb.str_eq ?_)),b1.trans (b2.mono b1.size)⟩;rw[←HL.out,←HZ.out];simp only[ByteArray.data_append,Array.toList_append];unfold word;rw[show s.data.toList.length=s.size by simp,HM.out]
theorem ax{w w':World}(h:Below w.drew.heap.size w.drew w'):Below w.heap.size w w':=⟨h.os,h.tape,h.output,h.size,h.block⟩
theorem xR(l:List UInt8):Lib.strCells ⟨l.toArray⟩=Lib.byteCells l:=by rw[Lib.strCells_eq]
theorem dU(B b:Nat)(bs:List UInt8)(sb n:Nat)(t:TypeId)(l:List ByteArray)(w:World)(h:Lib.IsBuilder 156 5 B b (Lib.byteCells bs) w)(hsb:Bx w sb (l.map Value.string).toArray t)(ht:t≠5)(hne:sb≠b)
 (hl:l.length=n) (hn:n<=64) (hs:aB l<=1099511627776) (hbs:bs.length<=4398046511104) (hBw:B<=w.heap.size) :
 Calls Tryz.prog 108 #[.pointer (some ⟨b,0,none⟩),.slice (some ⟨sb,0,none⟩) n n] w fun e w'=>e = .returned (.tuple #[])/\Lib.IsBuilder 156 5 B b (Lib.byteCells (bs++words l)) w'/\Below B w w'/\KT b w w':=by
 have HS:=yH (vZ hs);have HW:=yH (aP l);have HL:=yH hl;clear hl
 go_enter Tryz.func108,Tryz.ntmps108
 go_wp2
 go_loopw [8,5] (fun i _ wr=>∃k:Nat,k<=n/\i = .int .i64 k/\Hid (Lib.IsBuilder 156 5 B b (Lib.byteCells (bs++words (l.take k))) wr)/\Below B w wr/\Hid (KT b w wr)) (fun i _ _=>n-(intOf i).toNat)
 case atStart=>exact⟨0,Nat.zero_le _,rfl,yH (by simpa[words]using h),Below.refl _ _,yH (KT.refl _ _)⟩
 case round =>
  obtain⟨k,hk,rfl,hB,hb,hkt⟩:=hrel;by_cases hlt:k<n
  ·have kl:k<l.length:=(by rw[HL.out];exact hlt);have k0:(0:Int)<=(k:Int):=Int.natCast_nonneg _;have k1:(k:Int)<(n:Int):=(by omega);have xr:Bx wr sb (l.map Value.string).toArray t:=hkt.out sb _ hsb hne (fun c fr e=>by injection e with _ e2 _;exact ht e2);have g:wr.cell? ⟨sb,k,none⟩=some (.string l[k]):=(by rw[xr.cell];simp[kl]);have gs:=HS.out l[k] (List.getElem_mem kl);have hwl:=aP (l.take k);have hbk:=hb.size;have hsn:words (l.take (k+1))=words (l.take k)++word (l[k]).data.toList:=(by rw[List.take_succ_eq_append_getElem kl,Ar];simp[words]);have hbt:aB (l.take k)<=aB l:=by
    conv=>rhs;rw[←List.take_append_drop k l]
    rw[Aq];omega
   have hlk:(l.take k).length<=64:=(by rw[List.length_take];omega);obtain⟨s,hs'⟩:∃s,l[k]=s:=⟨_,rfl⟩;rw[hs']at g gs hsn;have hws:=uh s.data.toList;have Hsn:=yH hsn;clear hsn hs';have hlen:(Lib.byteCells (bs++words (l.take k))).length+(⟨(word s.data.toList).toArray⟩:ByteArray).size<=140737488355328:=(by have:s.data.toList.length=s.size:=(by simp);rw[Lib.byteCells_length,List.length_append,bsize,List.size_toArray];omega);have HLEN:=yH hlen;clear hwl hws hlen
   go_wp2_with fail
   go_region_held3 (fun _=>True) (trivial) (first|(go_at_call 148;refine(GV s _ gs).mono ?_;rintro e w1 ⟨rfl,b1⟩)|(go_at_call 116;refine(writeString B b _ _ _ (Lb.aK hB.out (ax b1)) HLEN.out (Nat.le_trans hBw (Nat.le_trans hbk b1.size))).mono ?_;rintro e w2 ⟨rfl,h2,b2,Kr⟩))
   go_wp2_with fail
   go_roundw
   case rel =>
    refine⟨k+1,by omega,by go_num,yH (Or.inr ?_),(hb.trans ((ax b1).mono (Nat.le_trans hBw hbk))).trans b2,yH ((hkt.out.trans (KT.of_below (ax b1))).trans Kr)⟩;rw[xR,←Lib.byteCells_append,List.append_assoc,←Hsn.out]at h2;exact h2
   case measure=>simp[intOf];omega
  ·obtain rfl:k=n:=(by omega)
   go_wp2
   go_end0;refine⟨rfl,?_,hb,hkt.out⟩;have:=hB.out;rw[List.take_of_length_le (by rw[HL.out];exact Nat.le_refl _)]at this;exact this
/-- The words of a node. -/
def nK(k:Int)(ex:Bool)(t:ByteArray)(inside:List UInt8):List UInt8 :=
 words [⟨#[40]⟩,⟨#[116,121,112,101]⟩] ++
 ((if k=1 then words [⟨#[114,101,103,117,108,97,114]⟩]++((if ex then words [⟨#[101,120,101,99,117,116,97,98,108,101]⟩,⟨#[]⟩]else[])++words [⟨#[99,111,110,116,101,110,116,115]⟩,t])
  else if k=2 then words [⟨#[115,121,109,108,105,110,107]⟩,⟨#[116,97,114,103,101,116]⟩,t]
  else words [⟨#[100,105,114,101,99,116,111,114,121]⟩]++inside) ++
 words [⟨#[41]⟩])
def fH:Tr.Kids->List UInt8
 | .nil=>[]
 | .cons nm k ex t sub rest=>words [⟨#[101,110,116,114,121]⟩,⟨#[40]⟩,⟨#[110,97,109,101]⟩,nm,⟨#[110,111,100,101]⟩]++(nK k ex t (fH sub)++(words [⟨#[41]⟩]++fH rest))
def raw(k:Int)(ex:Bool)(t:ByteArray)(ks:Tr.Kids):List UInt8:=nK k ex t (fH ks)
theorem kJ(k:Int)(ex:Bool)(t:ByteArray)(i:List UInt8):(nK k ex t i).length<=t.size+i.length+300:=by
 unfold nK;have a1:=aP [⟨#[40]⟩,⟨#[116,121,112,101]⟩];have a2:=aP [⟨#[114,101,103,117,108,97,114]⟩];have a3:=aP [⟨#[101,120,101,99,117,116,97,98,108,101]⟩,⟨#[]⟩];have a4:=aP [⟨#[99,111,110,116,101,110,116,115]⟩,t];have a5:=aP [⟨#[115,121,109,108,105,110,107]⟩,⟨#[116,97,114,103,101,116]⟩,t];have a6:=aP [⟨#[100,105,114,101,99,116,111,114,121]⟩];have a7:=aP [⟨#[41]⟩];simp only[aB,bsize,List.length_cons,List.length_nil,List.size_toArray]at a1 a2 a3 a4 a5 a6 a7
 (repeat' split)<;>simp only[List.length_append,List.length_nil]<;>omega
theorem jb(ks:Tr.Kids):(fH ks).length<=200*ks.bulk:=by
 induction ks with
 | nil=>simp[fH]
 | cons nm k ex t sub rest JZ ihr =>
  have a1:=aP [⟨#[101,110,116,114,121]⟩,⟨#[40]⟩,⟨#[110,97,109,101]⟩,nm,⟨#[110,111,100,101]⟩];have a2:=aP [⟨#[41]⟩];have a3:=kJ k ex t (fH sub);simp only[aB,bsize,List.length_cons,List.length_nil,List.size_toArray]at a1 a2;simp only[fH,List.length_append,Tr.Kids.bulk];omega

/- NODE -/
theorem mD{B b:Nat}{bs:List Value}{w:World}(h:Lib.IsBuilder 156 5 B b bs w):B<=b/\b<w.heap.size:=by
 rcases h with h|h
 ·exact⟨h.1,h.lt⟩
 ·exact⟨h.1,h.lt⟩
theorem pq{b k:Nat}{w w':World}{cs:Array Value}{t:TypeId}(h:Bx w k cs t)(hk:KT b w w')(hn:k≠b)(ht:t≠5):Bx w' k cs t:=hk k _ h hn (fun c fr e=>by injection e with _ e2 _;exact ht e2)
theorem mF:(words [⟨#[40]⟩,⟨#[116,121,112,101]⟩]).length=32:=by decide
theorem pY:(words [⟨#[114,101,103,117,108,97,114]⟩]).length=16:=by decide
theorem qc:(words [⟨#[101,120,101,99,117,116,97,98,108,101]⟩,⟨#[]⟩]).length=32:=by decide
theorem mG:(words [⟨#[100,105,114,101,99,116,111,114,121]⟩]).length=24:=by decide
theorem mJ:(words [⟨#[41]⟩]).length=16:=by decide
set_option maxRecDepth 100000 in
theorem node2(B b:Nat)(ks:Tr.Kids)(t:ByteArray)(ao:Option Addr)(nk cap:Nat)(ex:Bool)(bs:List UInt8)(w:World)(h:Lib.IsBuilder 156 5 B b (Lib.byteCells bs) w)(hBw:B<=w.heap.size)(ht:t.size<=16777216)(hlen:bs.length<=4294967296) :
 Calls Tryz.prog 109 #[.pointer (some ⟨b,0,none⟩),.agg #[.int .i64 2,.bool ex,.string t,.slice ao nk cap]] w fun e w'=>e = .returned (.tuple #[])/\Lib.IsBuilder 156 5 B b (Lib.byteCells (bs++raw 2 ex t ks)) w'/\Below B w w'/\KT b w w':=by
 have hblt:=mD h;have w1l:=mF;have w2l:=pY;have w3l:=qc;have w4l:=mG;have w5l:=mJ;have w6l:=aP [⟨#[99,111,110,116,101,110,116,115]⟩,t];have w7l:=aP [⟨#[115,121,109,108,105,110,107]⟩,⟨#[116,97,114,103,101,116]⟩,t];have hraw:raw 2 ex t ks=words [⟨#[40]⟩,⟨#[116,121,112,101]⟩]++(words [⟨#[115,121,109,108,105,110,107]⟩,⟨#[116,97,114,103,101,116]⟩,t]++words [⟨#[41]⟩]):=(by simp[raw,nK]);have HR:=yH hraw;simp only[aB,bsize,List.length_cons,List.length_nil,List.size_toArray]at w6l w7l;clear hraw
 go_enter Tryz.func109,Tryz.ntmps109
 go_wp2_with fail;refine ae fun u1 hu1=>?_
 obtain⟨sZ,Bh,Ia⟩:=aQ hu1;clear hu1;have NG:=Lb.aK h sZ;have Q8:=sZ.size;have xl:=Bh.lt;have XW:=yH Bh;refine(dU B b _ _ 2 _ [⟨#[40]⟩,⟨#[116,121,112,101]⟩] _ NG Ia (by decide) (by omega) rfl (by decide) (by simp[aB,bsize]) (by omega) (by omega)).mono ?_;rintro e v1 ⟨rfl,hh1,vb1,xF⟩;have h1:=yH hh1;have NH:Below B w v1:=(sZ.mono (by omega)).trans vb1;have NI:Hid (KT b u1 v1):=yH xF;have kA:Hid (KT b w u1):=yH (KT.of_below sZ);have Wy:=NH.size;have sz1:=vb1.size;clear hh1 xF Ia NG vb1 sZ Bh h;have x1:=pq XW.out NI.out (by omega) (by decide);have c0:v1.cell? ⟨w.heap.size,0,none⟩=some (.int .i64 2):=x1.cell 0;have c2:v1.cell? ⟨w.heap.size,2,none⟩=some (.string t):=x1.cell 2
 go_wp2_with fail;refine ae fun u2 hu2=>?_
 obtain⟨wS,NJ⟩:=af hu2;clear hu2;have NK:=Lb.aK h1.out wS;have WB:=wS.size;refine(dU B b _ _ 3 _ [⟨#[115,121,109,108,105,110,107]⟩,⟨#[116,97,114,103,101,116]⟩,t] _ NK NJ (by decide) (by omega) rfl (by decide) (by first|(simp[aB,bsize];done)|(simp[aB,bsize];omega)) (by simp only[List.length_append];omega) (by omega)).mono ?_;rintro e v2 ⟨rfl,hh2,Bi,yh⟩;have h2:=yH hh2;have NM:Below B w v2:=(NH.trans (wS.mono (by omega))).trans Bi;have Kr:Hid (KT b u1 v2):=yH ((NI.out.trans (KT.of_below wS)).trans yh);have WE:=NM.size;have sz2:=Bi.size;clear hh2 yh NJ NK Bi wS
 go_wp2_with fail;refine ae fun u3 hu3=>?_
 obtain⟨Df,TZ⟩:=af hu3;clear hu3;have Ua:=Lb.aK h2.out Df;have za5:=Df.size;refine(dU B b _ _ 1 _ [⟨#[41]⟩] _ Ua TZ (by decide) (by omega) rfl (by decide) (by first|(simp[aB,bsize];done)|(simp[aB,bsize];omega)) (by simp only[List.length_append];omega) (by omega)).mono ?_;rintro e v3 ⟨rfl,hh3,Jp,Eg⟩;have h3:=yH hh3;have Jq:Below B w v3:=(NM.trans (Df.mono (by omega))).trans Jp;have Q9:Hid (KT b u1 v3):=yH ((Kr.out.trans (KT.of_below Df)).trans Eg);have WG:=Jq.size;have sz3:=Jp.size;clear hh3 Eg TZ Ua Jp Df
 go_wp2_with fail
 go_end0;refine⟨rfl,?_,Jq,(kA.out.trans Q9.out)⟩;have:=h3.out;rw[HR.out]
 simpa[List.append_assoc]using this
set_option maxRecDepth 100000 in
theorem EW(B b:Nat)(ks:Tr.Kids)(t:ByteArray)(ao:Option Addr)(nk cap:Nat)(bs:List UInt8)(w:World)(h:Lib.IsBuilder 156 5 B b (Lib.byteCells bs) w)(hBw:B<=w.heap.size)(ht:t.size<=16777216)(hlen:bs.length<=4294967296) :
 Calls Tryz.prog 109 #[.pointer (some ⟨b,0,none⟩),.agg #[.int .i64 1,.bool true,.string t,.slice ao nk cap]] w fun e w'=>e = .returned (.tuple #[])/\Lib.IsBuilder 156 5 B b (Lib.byteCells (bs++raw 1 true t ks)) w'/\Below B w w'/\KT b w w':=by
 have hblt:=mD h;have w1l:=mF;have w2l:=pY;have w3l:=qc;have w4l:=mG;have w5l:=mJ;have w6l:=aP [⟨#[99,111,110,116,101,110,116,115]⟩,t];have w7l:=aP [⟨#[115,121,109,108,105,110,107]⟩,⟨#[116,97,114,103,101,116]⟩,t];have hraw:raw 1 true t ks=words [⟨#[40]⟩,⟨#[116,121,112,101]⟩]++(words [⟨#[114,101,103,117,108,97,114]⟩]++(words [⟨#[101,120,101,99,117,116,97,98,108,101]⟩,⟨#[]⟩]++(words [⟨#[99,111,110,116,101,110,116,115]⟩,t]++words [⟨#[41]⟩]))):=(by simp[raw,nK]);have HR:=yH hraw;simp only[aB,bsize,List.length_cons,List.length_nil,List.size_toArray]at w6l w7l;clear hraw
 go_enter Tryz.func109,Tryz.ntmps109
 go_wp2_with fail;refine ae fun u1 hu1=>?_
 obtain⟨sZ,Bh,Ia⟩:=aQ hu1;clear hu1;have NG:=Lb.aK h sZ;have Q8:=sZ.size;have xl:=Bh.lt;have XW:=yH Bh;refine(dU B b _ _ 2 _ [⟨#[40]⟩,⟨#[116,121,112,101]⟩] _ NG Ia (by decide) (by omega) rfl (by decide) (by simp[aB,bsize]) (by omega) (by omega)).mono ?_;rintro e v1 ⟨rfl,hh1,vb1,xF⟩;have h1:=yH hh1;have NH:Below B w v1:=(sZ.mono (by omega)).trans vb1;have NI:Hid (KT b u1 v1):=yH xF;have kA:Hid (KT b w u1):=yH (KT.of_below sZ);have Wy:=NH.size;have sz1:=vb1.size;clear hh1 xF Ia NG vb1 sZ Bh h;have x1:=pq XW.out NI.out (by omega) (by decide);have c0:v1.cell? ⟨w.heap.size,0,none⟩=some (.int .i64 1):=x1.cell 0
 go_wp2_with fail;refine ae fun u2 hu2=>?_
 obtain⟨wS,NJ⟩:=af hu2;clear hu2;have NK:=Lb.aK h1.out wS;have WB:=wS.size;refine(dU B b _ _ 1 _ [⟨#[114,101,103,117,108,97,114]⟩] _ NK NJ (by decide) (by omega) rfl (by decide) (by first|(simp[aB,bsize];done)|(simp[aB,bsize];omega)) (by simp only[List.length_append];omega) (by omega)).mono ?_;rintro e v2 ⟨rfl,hh2,Bi,yh⟩;have h2:=yH hh2;have NM:Below B w v2:=(NH.trans (wS.mono (by omega))).trans Bi;have Kr:Hid (KT b u1 v2):=yH ((NI.out.trans (KT.of_below wS)).trans yh);have WE:=NM.size;have sz2:=Bi.size;clear hh2 yh NJ NK Bi wS;have x2:=pq XW.out Kr.out (by omega) (by decide);have c1:v2.cell? ⟨w.heap.size,1,none⟩=some (.bool true):=x2.cell 1;have c2:v2.cell? ⟨w.heap.size,2,none⟩=some (.string t):=x2.cell 2
 go_wp2_with fail;refine ae fun u3 hu3=>?_
 obtain⟨Df,TZ⟩:=af hu3;clear hu3;have Ua:=Lb.aK h2.out Df;have za5:=Df.size;refine(dU B b _ _ 2 _ [⟨#[101,120,101,99,117,116,97,98,108,101]⟩,⟨#[]⟩] _ Ua TZ (by decide) (by omega) rfl (by decide) (by first|(simp[aB,bsize];done)|(simp[aB,bsize];omega)) (by simp only[List.length_append];omega) (by omega)).mono ?_;rintro e v3 ⟨rfl,hh3,Jp,Eg⟩;have h3:=yH hh3;have Jq:Below B w v3:=(NM.trans (Df.mono (by omega))).trans Jp;have Q9:Hid (KT b u1 v3):=yH ((Kr.out.trans (KT.of_below Df)).trans Eg);have WG:=Jq.size;have sz3:=Jp.size;clear hh3 Eg TZ Ua Jp Df;have x3:=pq XW.out Q9.out (by omega) (by decide);have c3:v3.cell? ⟨w.heap.size,2,none⟩=some (.string t):=x3.cell 2
 go_wp2_with fail;refine ae fun u4 NP=>?_
 obtain⟨vg,NQ⟩:=af NP;clear NP;have NR:=Lb.aK h3.out vg;have WH:=vg.size;refine(dU B b _ _ 2 _ [⟨#[99,111,110,116,101,110,116,115]⟩,t] _ NR NQ (by decide) (by omega) rfl (by decide) (by first|(simp[aB,bsize];done)|(simp[aB,bsize];omega)) (by simp only[List.length_append];omega) (by omega)).mono ?_;rintro e v4 ⟨rfl,hh4,En,yj⟩;have h4:=yH hh4;have NS:Below B w v4:=(Jq.trans (vg.mono (by omega))).trans En;have WI:Hid (KT b u1 v4):=yH ((Q9.out.trans (KT.of_below vg)).trans yj);have WJ:=NS.size;have sz4:=En.size;clear hh4 yj NQ NR En vg
 go_wp2_with fail;refine ae fun u5 hu5=>?_
 obtain⟨ub5,ux5⟩:=af hu5;clear hu5;have uh5:=Lb.aK h4.out ub5;have zeD:=ub5.size;refine(dU B b _ _ 1 _ [⟨#[41]⟩] _ uh5 ux5 (by decide) (by omega) rfl (by decide) (by first|(simp[aB,bsize];done)|(simp[aB,bsize];omega)) (by simp only[List.length_append];omega) (by omega)).mono ?_;rintro e v5 ⟨rfl,hh5,Yt,vk5⟩;have h5:=yH hh5;have bd5:Below B w v5:=(NS.trans (ub5.mono (by omega))).trans Yt;have kt5:Hid (KT b u1 v5):=yH ((WI.out.trans (KT.of_below ub5)).trans vk5);have zdb:=bd5.size;have sz5:=Yt.size;clear hh5 vk5 ux5 uh5 Yt ub5
 go_wp2_with fail
 go_end0;refine⟨rfl,?_,bd5,(kA.out.trans kt5.out)⟩;have:=h5.out;rw[HR.out]
 simpa[List.append_assoc]using this
set_option maxRecDepth 100000 in
theorem EU(B b:Nat)(ks:Tr.Kids)(t:ByteArray)(ao:Option Addr)(nk cap:Nat)(bs:List UInt8)(w:World)(h:Lib.IsBuilder 156 5 B b (Lib.byteCells bs) w)(hBw:B<=w.heap.size)(ht:t.size<=16777216)(hlen:bs.length<=4294967296) :
 Calls Tryz.prog 109 #[.pointer (some ⟨b,0,none⟩),.agg #[.int .i64 1,.bool false,.string t,.slice ao nk cap]] w fun e w'=>e = .returned (.tuple #[])/\Lib.IsBuilder 156 5 B b (Lib.byteCells (bs++raw 1 false t ks)) w'/\Below B w w'/\KT b w w':=by
 have hblt:=mD h;have w1l:=mF;have w2l:=pY;have w3l:=qc;have w4l:=mG;have w5l:=mJ;have w6l:=aP [⟨#[99,111,110,116,101,110,116,115]⟩,t];have w7l:=aP [⟨#[115,121,109,108,105,110,107]⟩,⟨#[116,97,114,103,101,116]⟩,t];have hraw:raw 1 false t ks=words [⟨#[40]⟩,⟨#[116,121,112,101]⟩]++(words [⟨#[114,101,103,117,108,97,114]⟩]++(words [⟨#[99,111,110,116,101,110,116,115]⟩,t]++words [⟨#[41]⟩])):=(by simp[raw,nK]);have HR:=yH hraw;simp only[aB,bsize,List.length_cons,List.length_nil,List.size_toArray]at w6l w7l;clear hraw
 go_enter Tryz.func109,Tryz.ntmps109
 go_wp2_with fail;refine ae fun u1 hu1=>?_
 obtain⟨sZ,Bh,Ia⟩:=aQ hu1;clear hu1;have NG:=Lb.aK h sZ;have Q8:=sZ.size;have xl:=Bh.lt;have XW:=yH Bh;refine(dU B b _ _ 2 _ [⟨#[40]⟩,⟨#[116,121,112,101]⟩] _ NG Ia (by decide) (by omega) rfl (by decide) (by simp[aB,bsize]) (by omega) (by omega)).mono ?_;rintro e v1 ⟨rfl,hh1,vb1,xF⟩;have h1:=yH hh1;have NH:Below B w v1:=(sZ.mono (by omega)).trans vb1;have NI:Hid (KT b u1 v1):=yH xF;have kA:Hid (KT b w u1):=yH (KT.of_below sZ);have Wy:=NH.size;have sz1:=vb1.size;clear hh1 xF Ia NG vb1 sZ Bh h;have x1:=pq XW.out NI.out (by omega) (by decide);have c0:v1.cell? ⟨w.heap.size,0,none⟩=some (.int .i64 1):=x1.cell 0
 go_wp2_with fail;refine ae fun u2 hu2=>?_
 obtain⟨wS,NJ⟩:=af hu2;clear hu2;have NK:=Lb.aK h1.out wS;have WB:=wS.size;refine(dU B b _ _ 1 _ [⟨#[114,101,103,117,108,97,114]⟩] _ NK NJ (by decide) (by omega) rfl (by decide) (by first|(simp[aB,bsize];done)|(simp[aB,bsize];omega)) (by simp only[List.length_append];omega) (by omega)).mono ?_;rintro e v2 ⟨rfl,hh2,Bi,yh⟩;have h2:=yH hh2;have NM:Below B w v2:=(NH.trans (wS.mono (by omega))).trans Bi;have Kr:Hid (KT b u1 v2):=yH ((NI.out.trans (KT.of_below wS)).trans yh);have WE:=NM.size;have sz2:=Bi.size;clear hh2 yh NJ NK Bi wS;have x2:=pq XW.out Kr.out (by omega) (by decide);have c1:v2.cell? ⟨w.heap.size,1,none⟩=some (.bool false):=x2.cell 1;have c2:v2.cell? ⟨w.heap.size,2,none⟩=some (.string t):=x2.cell 2
 go_wp2_with fail;refine ae fun u3 hu3=>?_
 obtain⟨Df,TZ⟩:=af hu3;clear hu3;have Ua:=Lb.aK h2.out Df;have za5:=Df.size;refine(dU B b _ _ 2 _ [⟨#[99,111,110,116,101,110,116,115]⟩,t] _ Ua TZ (by decide) (by omega) rfl (by decide) (by first|(simp[aB,bsize];done)|(simp[aB,bsize];omega)) (by simp only[List.length_append];omega) (by omega)).mono ?_;rintro e v3 ⟨rfl,hh3,Jp,Eg⟩;have h3:=yH hh3;have Jq:Below B w v3:=(NM.trans (Df.mono (by omega))).trans Jp;have Q9:Hid (KT b u1 v3):=yH ((Kr.out.trans (KT.of_below Df)).trans Eg);have WG:=Jq.size;have sz3:=Jp.size;clear hh3 Eg TZ Ua Jp Df
 go_wp2_with fail;refine ae fun u4 NP=>?_
 obtain⟨vg,NQ⟩:=af NP;clear NP;have NR:=Lb.aK h3.out vg;have WH:=vg.size;refine(dU B b _ _ 1 _ [⟨#[41]⟩] _ NR NQ (by decide) (by omega) rfl (by decide) (by first|(simp[aB,bsize];done)|(simp[aB,bsize];omega)) (by simp only[List.length_append];omega) (by omega)).mono ?_;rintro e v4 ⟨rfl,hh4,En,yj⟩;have h4:=yH hh4;have NS:Below B w v4:=(Jq.trans (vg.mono (by omega))).trans En;have WI:Hid (KT b u1 v4):=yH ((Q9.out.trans (KT.of_below vg)).trans yj);have WJ:=NS.size;have sz4:=En.size;clear hh4 yj NQ NR En vg
 go_wp2_with fail
 go_end0;refine⟨rfl,?_,NS,(kA.out.trans WI.out)⟩;have:=h4.out;rw[HR.out]
 simpa[List.append_assoc]using this
end J4

namespace J4
open Go.RowKit Mem Tr lK jB Name jC wF MH
theorem uj{S:Nat->Prop}{B:Nat}{w w':World}(h:Below B w w')(hS:∀i,S i->i<B):Ag S w w':=fun k hs _=>h.block k (hS k hs)
set_option maxRecDepth 100000 in
theorem node3(S:Nat->Prop)(B b:Nat)(hS:∀i,S i->i<B)(m:Nat)(ks:Tr.Kids)(hm:ks.bulk<=m)
 (ih:∀(ks:Tr.Kids),ks.bulk<m->∀(k:Int) (ex:Bool) (t:ByteArray) (kv:Value) (bs:List UInt8) (w:World),ay S w kv ks->Lib.IsBuilder 156 5 B b (Lib.byteCells bs) w->B<=w.heap.size->t.size<=16777216->ks.bulk<=16777216->bs.length+(raw k ex t ks).length<=4294967296 ->
  Calls Tryz.prog 109 #[.pointer (some ⟨b,0,none⟩),.agg #[.int .i64 k,.bool ex,.string t,kv]] w fun e w'=>e = .returned (.tuple #[])/\Lib.IsBuilder 156 5 B b (Lib.byteCells (bs++raw k ex t ks)) w'/\Below B w w'/\KT b w w')
 (k:Int) (hk1:k≠1) (hk2:k≠2) (ex:Bool) (t:ByteArray) (ao:Option Addr) (cap:Nat) (bs:List UInt8) (w:World) (hk:ay S w (.slice ao ks.len cap) ks) (h:Lib.IsBuilder 156 5 B b (Lib.byteCells bs) w) (hBw:B<=w.heap.size) (ht:t.size<=16777216) (hb:ks.bulk<=16777216) (hlen:bs.length+(raw k ex t ks).length<=4294967296) :
 Calls Tryz.prog 109 #[.pointer (some ⟨b,0,none⟩),.agg #[.int .i64 k,.bool ex,.string t,.slice ao ks.len cap]] w fun e w'=>e = .returned (.tuple #[])/\Lib.IsBuilder 156 5 B b (Lib.byteCells (bs++raw k ex t ks)) w'/\Below B w w'/\KT b w w':=by
 have hblt:=mD h;have w1l:=mF;have w4l:=mG;have w5l:=mJ;have hkb:=ks.jD;have q1:(k==1)=false:=(by simp[hk1]);have q2:(k==2)=false:=(by simp[hk2]);have hraw:raw k ex t ks=(words [⟨#[40]⟩,⟨#[116,121,112,101]⟩]++(words [⟨#[100,105,114,101,99,116,111,114,121]⟩]++fH ks))++words [⟨#[41]⟩]:=(by simp[raw,nK,hk1,hk2]);have zeE:=jb ks;have hrl:=congrArg List.length hraw;simp only[List.length_append]at hrl;have hrl2:bs.length+(32+(24+(fH ks).length)+16)<=4294967296:=(by rw[w1l,w4l,w5l]at hrl;omega);clear hrl hlen;have HR:=yH hraw;have HK:=yH hk;have HIH:=yH ih;clear hraw hk ih hk1 hk2
 go_enter Tryz.func109,Tryz.ntmps109
 go_wp2_with fail;refine ae fun u1 hu1=>?_
 obtain⟨sZ,Bh,Ia⟩:=aQ hu1;clear hu1;have NG:=Lb.aK h sZ;have Q8:=sZ.size;have xl:=Bh.lt;have XW:=yH Bh;refine(dU B b _ _ 2 _ [⟨#[40]⟩,⟨#[116,121,112,101]⟩] _ NG Ia (by decide) (by omega) rfl (by decide) (by simp[aB,bsize]) (by omega) (by omega)).mono ?_;rintro e v1 ⟨rfl,hh1,vb1,xF⟩;have h1:=yH hh1;have NH:Below B w v1:=(sZ.mono (by omega)).trans vb1;have NI:Hid (KT b u1 v1):=yH xF;have kA:Hid (KT b w u1):=yH (KT.of_below sZ);have Wy:=NH.size;have sz1:=vb1.size;clear hh1 xF Ia NG vb1 sZ Bh h;have x1:=pq XW.out NI.out (by omega) (by decide);have c0:v1.cell? ⟨w.heap.size,0,none⟩=some (.int .i64 k):=x1.cell 0
 go_wp2_with fail;refine ae fun u2 hu2=>?_
 obtain⟨wS,NJ⟩:=af hu2;clear hu2;have NK:=Lb.aK h1.out wS;have WB:=wS.size;refine(dU B b _ _ 1 _ [⟨#[100,105,114,101,99,116,111,114,121]⟩] _ NK NJ (by decide) (by omega) rfl (by decide) (by first|(simp[aB,bsize];done)|(simp[aB,bsize];omega)) (by simp only[List.length_append];omega) (by omega)).mono ?_;rintro e v2 ⟨rfl,hh2,Bi,yh⟩;have h2:=yH hh2;have NM:Below B w v2:=(NH.trans (wS.mono (by omega))).trans Bi;have Kr:Hid (KT b u1 v2):=yH ((NI.out.trans (KT.of_below wS)).trans yh);have WE:=NM.size;have sz2:=Bi.size;clear hh2 yh NJ NK Bi wS;have x2:=pq XW.out Kr.out (by omega) (by decide);have c3:v2.cell? ⟨w.heap.size,3,none⟩=some (.slice ao ks.len cap):=x2.cell 3;have ZJ:=yH x2;clear x1 x2 c0
 go_wp2_with fail
 go_loopw [17,5] (fun i _ wr=>∃(j:Nat) (P:List UInt8),j<=ks.len/\i = .int .i64 j/\Hid (Lib.IsBuilder 156 5 B b (Lib.byteCells (bs++P)) wr)/\Below B w wr/\Hid (KT b u1 wr)/\Hid (P++fH (ks.drop j)=(words [⟨#[40]⟩,⟨#[116,121,112,101]⟩]++(words [⟨#[100,105,114,101,99,116,111,114,121]⟩]++fH ks)))) (fun i _ _=>ks.len-(intOf i).toNat)
 case atStart=>exact⟨0,words [⟨#[40]⟩,⟨#[116,121,112,101]⟩]++words [⟨#[100,105,114,101,99,116,111,114,121]⟩],Nat.zero_le _,rfl,yH (by have:=h2.out;rwa[List.append_assoc]at this),NM,Kr,yH (by rw[Tr.Kids.drop_zero,List.append_assoc])⟩
 case round =>
  obtain⟨j,P,hj,rfl,h3,Jq,Q9,hP⟩:=hrel;have WG:=Jq.size;have hPl:P.length<=56+(fH ks).length:=(by have:=congrArg List.length hP.out;simp only[List.length_append]at this;omega);by_cases hlt:j<ks.len
  ·obtain⟨ao',cap',hv,hcl,hcm,hel⟩:=HK.out;injection hv with hv1 hv2 hv3;subst hv1;subst hv3;clear hv2;rcases hel with rfl|⟨sb,off,rfl,hel⟩
   ·simp[Tr.Kids.len]at hlt
   have iF:=hel.ag (uj Jq hS);obtain⟨nm,kd,fQ,tx,sub,r,dL,cap2,hd0,hd1,hSb,g0,g1,g2,g3,g4,hsub,hbk⟩:=iF.at' hlt;have hun:P++(words [⟨#[101,110,116,114,121]⟩,⟨#[40]⟩,⟨#[110,97,109,101]⟩,nm,⟨#[110,111,100,101]⟩]++(nK kd fQ tx (fH sub)++(words [⟨#[41]⟩]++fH r)))=(words [⟨#[40]⟩,⟨#[116,121,112,101]⟩]++(words [⟨#[100,105,114,101,99,116,111,114,121]⟩]++fH ks)):=(by have:=hP.out;rw[hd0]at this;exact this);have HU:=yH hun;have HD:=yH hd1;have zeF:P.length+(words [⟨#[101,110,116,114,121]⟩,⟨#[40]⟩,⟨#[110,97,109,101]⟩,nm,⟨#[110,111,100,101]⟩]).length+(nK kd fQ tx (fH sub)).length<=56+(fH ks).length:=(by have:=congrArg List.length hun;simp only[List.length_append]at this;omega);have j0:(0:Int)<=(j:Int):=Int.natCast_nonneg _;have j1:(j:Int)<(ks.len:Int):=(by omega);clear hd0 hd1 hun hP hel iF
   go_wp2_with fail;refine ae fun u4 NP=>?_
   obtain⟨vg,ut4,NQ⟩:=aQ NP;clear NP g0 g1 g2 g3 g4;have NR:=Lb.aK h3.out vg;have WH:=vg.size;have xl4:=ut4.lt;have XE:=yH ut4;refine(dU B b _ _ 5 _ [⟨#[101,110,116,114,121]⟩,⟨#[40]⟩,⟨#[110,97,109,101]⟩,nm,⟨#[110,111,100,101]⟩] _ NR NQ (by decide) (by omega) rfl (by decide) (by simp[aB,bsize];omega) (by simp only[List.length_append];omega) (by omega)).mono ?_;rintro e v4 ⟨rfl,hh4,En,yj⟩;have h4:=yH hh4;have NS:Below B w v4:=(Jq.trans (vg.mono (by omega))).trans En;have WI:Hid (KT b u1 v4):=yH ((Q9.out.trans (KT.of_below vg)).trans yj);have x4:=pq XE.out yj (by omega) (by decide);have WJ:=NS.size;have sz4:=En.size;have za6:=hsub.ag ((uj (B:=B) ((vg.mono (by omega)).trans En) hS));clear hh4 yj NQ NR En vg ut4;have a1:v4.cell? ⟨wr.heap.size,1,none⟩=some (.int .i64 kd):=x4.cell 1;have a2:v4.cell? ⟨wr.heap.size,2,none⟩=some (.bool fQ):=x4.cell 2;have a3:v4.cell? ⟨wr.heap.size,3,none⟩=some (.string tx):=x4.cell 3;have a4:v4.cell? ⟨wr.heap.size,4,none⟩=some (.slice dL sub.len cap2):=x4.cell 4
   go_wp2_with fail;refine(HIH.out sub (by omega) kd fQ tx _ _ v4 za6 h4.out (by omega) (by omega) (by omega) (by show _+(nK kd fQ tx (fH sub)).length<=_;simp only[List.length_append];omega)).mono ?_;rintro e v5 ⟨rfl,hh5,Yt,vk5⟩;have h5:=yH hh5;have bd5:Below B w v5:=NS.trans Yt;have kt5:Hid (KT b u1 v5):=yH (WI.out.trans vk5);have zdb:=bd5.size;have hrr:(raw kd fQ tx sub).length=(nK kd fQ tx (fH sub)).length:=rfl;clear hh5 Yt vk5 a1 a2 a3 a4 x4
   go_wp2_with fail;refine ae fun u6 hu6=>?_
   obtain⟨ub6,ux6⟩:=af hu6;clear hu6;have uh6:=Lb.aK h5.out ub6;have zeG:=ub6.size;refine(dU B b _ _ 1 _ [⟨#[41]⟩] _ uh6 ux6 (by decide) (by omega) rfl (by decide) (by first|(simp[aB,bsize];done)|(simp[aB,bsize];omega)) (by simp only[List.length_append];omega) (by omega)).mono ?_;rintro e v6 ⟨rfl,hh6,vb6,vk6⟩;have h6:=yH hh6;have bd6:Below B w v6:=(bd5.trans (ub6.mono (by omega))).trans vb6;have kt6:Hid (KT b u1 v6):=yH ((kt5.out.trans (KT.of_below ub6)).trans vk6);have zeH:=bd6.size;have sz6:=vb6.size;clear hh6 vk6 ux6 uh6 vb6 ub6
   go_wp2_with fail
   go_roundw
   case rel =>
    refine⟨j+1,P++(words [⟨#[101,110,116,114,121]⟩,⟨#[40]⟩,⟨#[110,97,109,101]⟩,nm,⟨#[110,111,100,101]⟩]++(nK kd fQ tx (fH sub)++words [⟨#[41]⟩])),by omega,by go_num,yH ?_,bd6,kt6,yH ?_⟩
    ·have:=h6.out
     simpa only[List.append_assoc,raw]using this
    ·rw[HD.out,←HU.out];simp only[List.append_assoc]
   case measure=>simp[intOf];omega
  ·obtain rfl:j=ks.len:=(by omega)
   go_wp2_with fail;refine ae fun u4 NP=>?_
   obtain⟨vg,NQ⟩:=af NP;clear NP;have NR:=Lb.aK h3.out vg;have WH:=vg.size;refine(dU B b _ _ 1 _ [⟨#[41]⟩] _ NR NQ (by decide) (by omega) rfl (by decide) (by first|(simp[aB,bsize];done)|(simp[aB,bsize];omega)) (by simp only[List.length_append];omega) (by omega)).mono ?_;rintro e v4 ⟨rfl,hh4,En,yj⟩;have h4:=yH hh4;have NS:Below B w v4:=(Jq.trans (vg.mono (by omega))).trans En;have WI:Hid (KT b u1 v4):=yH ((Q9.out.trans (KT.of_below vg)).trans yj);have WJ:=NS.size;have sz4:=En.size;clear hh4 yj NQ NR En vg
   go_wp2_with fail
   go_end0;refine⟨rfl,?_,NS,kA.out.trans WI.out⟩;have h7:=h4.out;have h8:=hP.out;rw[Tr.Kids.gV _ _ (Nat.le_refl _)]at h8;simp only[fH,List.append_nil]at h8;rw[HR.out,←h8,←List.append_assoc];exact h7
theorem LH(S:Nat->Prop)(B b:Nat)(hS:∀i,S i->i<B):∀(m:Nat) (ks:Tr.Kids),ks.bulk<m->∀(k:Int) (ex:Bool) (t:ByteArray) (kv:Value) (bs:List UInt8) (w:World),ay S w kv ks->Lib.IsBuilder 156 5 B b (Lib.byteCells bs) w->B<=w.heap.size->t.size<=16777216->ks.bulk<=16777216->bs.length+(raw k ex t ks).length<=4294967296 ->
 Calls Tryz.prog 109 #[.pointer (some ⟨b,0,none⟩),.agg #[.int .i64 k,.bool ex,.string t,kv]] w fun e w'=>e = .returned (.tuple #[])/\Lib.IsBuilder 156 5 B b (Lib.byteCells (bs++raw k ex t ks)) w'/\Below B w w'/\KT b w w':=by
 intro m
 induction m with
 | zero=>intro ks h;omega
 | succ m ih =>
  intro ks hm k ex t kv bs w hkv h hBw ht hb hlen;have hk0:=hkv;obtain⟨ao,cap,rfl,hcl,hcm,hel⟩:=hkv;by_cases k1:k=1
  ·subst k1;cases ex
   ·exact EU B b ks t ao ks.len cap bs w h hBw ht (by omega)
   ·exact EW B b ks t ao ks.len cap bs w h hBw ht (by omega)
  by_cases k2:k=2
  ·subst k2;exact node2 B b ks t ao ks.len cap ex bs w h hBw ht (by omega)
  ·exact node3 S B b hS m ks (by omega) ih k k1 k2 ex t ao cap bs w hk0 h hBw ht hb hlen
def kP:List ByteArray:=[⟨#[100,101,112,111,116,45,97,114,99,104,105,118,101,45,49]⟩]
/-- The Yu bytes. -/
def bG(k:Int)(ex:Bool)(t:ByteArray)(ks:Tr.Kids):List UInt8:=words kP++raw k ex t ks
theorem iR(k:Int)(ex:Bool)(t:ByteArray)(ks:Tr.Kids):(bG k ex t ks).length<=t.size+200*ks.bulk+500:=by
 have h1:=kJ k ex t (fH ks);have h2:=jb ks;have h3:(words kP).length=24:=(by decide);unfold bG raw;rw[List.length_append,h3];omega
def Ai(k:Int)(ex:Bool)(t:ByteArray)(ks:Tr.Kids):Value:=if(cO k ex t ks).2.1=0 then .tuple #[.string ⟨(bG k ex t ks).toArray⟩,.int .i64 0]else .tuple #[.string ⟨#[]⟩,.int .i64 (cO k ex t ks).2.1]
theorem Ah(S:Nat->Prop)(k:Int)(ex:Bool)(t:ByteArray)(kv:Value)(ks:Tr.Kids)(w:World)(hk:ay S w kv ks)(hS:∀i,S i->i<w.heap.size)(hb:ks.bulk<=4194304)(ht:t.size<=4194304) :
 Calls Tryz.prog 65 #[.agg #[.int .i64 k,.bool ex,.string t,kv]] w fun e w' =>
  e = .returned (Ai k ex t ks)/\Below w.heap.size w w':=by
 obtain⟨ao,cap,hkv,hcl,hcm,hel⟩:=id hk;subst hkv;have hsl:=iR k ex t ks
 go_enter Tryz.func65,Tryz.ntmps65
 go_wp2_with fail;refine ae fun w0 hw0=>?_
 obtain⟨b0,x0⟩:=af hw0;clear hw0;have VJ:=b0.size;refine(zG S k ex t _ ks w0 (hk.below b0) (fun i hi=>by have:=hS i hi;omega) hb ht).mono ?_;rintro e w1 ⟨rfl,b1⟩;have b1s:=b1.size;have hk1:=(hk.below b0).below b1;have x1:=x0.below b1;have xl:=x0.lt;have hv:Ai k ex t ks=if(cO k ex t ks).2.1=0 then .tuple #[.string ⟨(bG k ex t ks).toArray⟩,.int .i64 0]else .tuple #[.string ⟨#[]⟩,.int .i64 (cO k ex t ks).2.1]:=rfl
 generalize (cO k ex t ks).2.1=c at *;generalize (cO k ex t ks).1=pth at *;have HV:=yH hv;clear hv;by_cases h0:c=0
 ·subst h0;have a0:w1.cell? ⟨w.heap.size,0,none⟩=some (.int .i64 k):=x1.cell 0;have a1:w1.cell? ⟨w.heap.size,1,none⟩=some (.bool ex):=x1.cell 1;have a2:w1.cell? ⟨w.heap.size,2,none⟩=some (.string t):=x1.cell 2;have a3:w1.cell? ⟨w.heap.size,3,none⟩=some (.slice ao ks.len cap):=x1.cell 3
  go_wp2_with fail;refine ae fun u1 hu1=>?_
  obtain⟨sZ,Bh,Ia⟩:=aQ hu1;clear hu1 a0 a1 a2 a3;have Q8:=sZ.size;have xu1:=x1.below sZ;have hB:Lib.IsBuilder 156 5 w1.heap.size w1.heap.size (Lib.byteCells []) u1:=.inl ⟨Nat.le_refl _,.slice none 0 0,Bh,World.ownsRow_nil _ _ _ _,by simp[Value.ownBlock]⟩;refine(dU w1.heap.size w1.heap.size [] _ 1 _ kP _ hB Ia (by decide) (by omega) rfl (by decide) (by simp[kP,aB,bsize]) (by simp) (by omega)).mono ?_;rintro e v1 ⟨rfl,h1,vb1,xF⟩;have sz1:=vb1.size;have xv1:=pq xu1 xF (by omega) (by decide);have a0:v1.cell? ⟨w.heap.size,0,none⟩=some (.int .i64 k):=xv1.cell 0;have a1:v1.cell? ⟨w.heap.size,1,none⟩=some (.bool ex):=xv1.cell 1;have a2:v1.cell? ⟨w.heap.size,2,none⟩=some (.string t):=xv1.cell 2;have a3:v1.cell? ⟨w.heap.size,3,none⟩=some (.slice ao ks.len cap):=xv1.cell 3;have bw1:Below w1.heap.size w1 v1:=(sZ.mono (Nat.le_refl _)).trans vb1;have hkv:=hk1.below bw1;have H1:=yH h1;clear h1 xF hB Ia Bh;have WL:bG k ex t ks=words kP++raw k ex t ks:=rfl;have hsl2:=congrArg List.length WL;rw[List.length_append]at hsl2;have VI:=yH WL;clear WL
  go_wp2_with fail;refine(LH S w1.heap.size w1.heap.size (fun i hi=>by have:=hS i hi;omega) (ks.bulk+1) ks (by omega) k ex t _ _ v1 hkv H1.out (by omega) (by omega) (by omega) (by rw[List.nil_append];omega)).mono ?_;rintro e v2 ⟨rfl,h2,Bi,yh⟩;have sz2:=Bi.size;clear hsl2 a0 a1 a2 a3
  go_wp2_with fail;refine(pX w1.heap.size w1.heap.size _ v2 h2 (by omega)).mono ?_;rintro e v3 ⟨rfl,Jp⟩
  go_wp2_with fail
  go_ret2;refine⟨?_,((b0.trans (b1.mono (by omega))).trans (bw1.mono (by omega))).trans ((Bi.trans Jp).mono (by omega))⟩;rw[show Ai k ex t ks = .tuple #[.string ⟨(bG k ex t ks).toArray⟩,.int .i64 0]from HV.out.trans (if_pos trivial),VI.out];rfl
 ·have q:(c != 0)=true:=(by simp[h0]);have H0:=yH h0;clear h0
  go_wp2_with fail
  go_ret2;refine⟨?_,b0.trans (b1.mono (by omega))⟩;rw[HV.out,if_neg H0.out];rfl
end J4
end Go.Proofs.YtmmmghpimdfleaaGreatDoor
