/-
  tree.U3.node.
-/
import Derived.Test.YtmmmghpimdfleaaGreatDoorTk
import Derived.Test.YtmmmghpimdfleaaGreatDoorGrpC
set_option linter.unusedVariables false
set_option maxHeartbeats 2000000
namespace Go.Proofs.YtmmmghpimdfleaaGreatDoor.jC
open Go.RowKit Mem Tr lK jB Name
/-- The words of a node of its own. -/
def IL(k:Int)(ex:Bool)(t:ByteArray):List ByteArray :=
 if k=1 then[⟨#[40]⟩,⟨#[116,121,112,101]⟩,⟨#[114,101,103,117,108,97,114]⟩,⟨#[99,111,110,116,101,110,116,115]⟩,t,⟨#[41]⟩]++(if ex then[⟨#[101,120,101,99,117,116,97,98,108,101]⟩,⟨#[]⟩]else[])
 else if k=2 then[⟨#[40]⟩,⟨#[116,121,112,101]⟩,⟨#[115,121,109,108,105,110,107]⟩,⟨#[116,97,114,103,101,116]⟩,t,⟨#[41]⟩]
 else[⟨#[40]⟩,⟨#[116,121,112,101]⟩,⟨#[100,105,114,101,99,116,111,114,121]⟩,⟨#[41]⟩]
def Ls(nm:ByteArray):List ByteArray:=[⟨#[101,110,116,114,121]⟩,⟨#[40]⟩,⟨#[110,97,109,101]⟩,nm,⟨#[110,111,100,101]⟩,⟨#[41]⟩]
def gG(k:Int)(ex:Bool)(t:ByteArray):Nat:=aj (IL k ex t)
def dJ(nm:ByteArray):Nat:=aj (Ls nm)
inductive R where
 | ok (n:Nat)
 | bad (path:ByteArray) (code:Int)
def oV(path:ByteArray)(depth:Nat)(k:Int)(ex:Bool)(t:ByteArray)(nk n:Nat):R :=
 if 32<depth then .bad path 61
 else if aG k ex t nk≠0 then .bad path (aG k ex t nk)
 else if 1048576<n+gG k ex t then .bad path 2 else .ok (n+gG k ex t)
def leB(a b:ByteArray):Bool:=Op.bytesLess a.toList b.toList||a.toList==b.toList
def behind(prev:Option ByteArray)(nm:ByteArray):Bool:=match prev with|none=>false|some p=>leB nm p
def aY:Tr.Kids->ByteArray->Nat->Option ByteArray->Nat->R
 | .nil,_,_,_,n=>.ok n
 | .cons nm k ex t sub rest,path,depth,prev,n =>
  if bK nm≠0 then .bad (dh path nm depth) (bK nm)
  else if behind prev nm=true then .bad (dh path nm depth) 64
  else if 1048576<n+dJ nm then .bad (dh path nm depth) 2
  else match oV (dh path nm depth) (depth+1) k ex t sub.len (n+dJ nm)with
   | .bad p c=>.bad p c
   | .ok m=>match aY sub (dh path nm depth) (depth+1) none m with
    | .bad p c=>.bad p c
    | .ok m'=>aY rest path depth (some nm) m'
def au(path:ByteArray)(depth:Nat)(k:Int)(ex:Bool)(t:ByteArray)(ks:Tr.Kids)(n:Nat):R :=
 match oV path depth k ex t ks.len n with
 | .bad p c=>.bad p c
 | .ok m=>aY ks path depth none m
def Post(p:Nat)(w:World)(r:R)(e:Ending)(w':World):Prop :=
 match r with
 | .ok n=>e = .returned (.tuple #[])/\Bx w' p #[.int .i64 (n:Int)] 243/\n<=1048576/\Kp (· = p) w w'
 | .bad q c=>e = .panicked [{ v:=off q c,recovered:=false }]/\Kp (· = p) w w'
def gm(p:Nat)(w:World)(r:R)(e:Ending)(w':World):Prop:=Post p w r e w'
theorem kV{path:ByteArray}{depth:Nat}{k:Int}{ex:Bool}{t:ByteArray}{ks:Tr.Kids}{n:Nat}(hd:depth<=32)(hf:aG k ex t ks.len=0) :
 au path depth k ex t ks n=if 1048576<n+gG k ex t then .bad path 2 else aY ks path depth none (n+gG k ex t):=by
 unfold au oV;rw[if_neg (by omega),if_neg (fun h=>h hf)];by_cases h:1048576<n+gG k ex t
 ·rw[if_pos h,if_pos h]
 ·rw[if_neg h,if_neg h]
theorem tX(ex:Bool)(t:ByteArray):aG 1 ex t 0=0:=by simp[aG]
theorem zU{k:Int}{ex:Bool}{t:ByteArray}{n:Nat}(h:aG k ex t n=0):(k=1/\n=0)∨(k=2/\n=0/\ex=false)∨(k=3/\ex=false):=by
 unfold aG at h;by_cases k1:k=1
 ·rw[if_pos k1]at h;by_cases h2:0<n
  ·rw[if_pos h2]at h;omega
  ·exact .inl ⟨k1,by omega⟩
 rw[if_neg k1]at h;by_cases k2:k=2
 ·rw[if_pos k2]at h;by_cases h2:ex=true∨0<n
  ·rw[if_pos h2]at h;omega
  ·refine .inr (.inl ⟨k2,?_,?_⟩)
   ·have:¬0<n:=fun x=>h2 (.inr x)
    omega
   ·cases ex
    ·rfl
    ·exact absurd (.inl rfl) h2
 rw[if_neg k2]at h;by_cases k3:k=3
 ·rw[if_pos k3]at h;by_cases h2:ex=true∨t.size≠0
  ·rw[if_pos h2]at h;omega
  ·refine .inr (.inr ⟨k3,?_⟩);cases ex
   ·rfl
   ·exact absurd (.inl rfl) h2
 ·rw[if_neg k3]at h;omega
set_option maxRecDepth 100000 in
theorem EU(p:Nat)(path:ByteArray)(depth:Nat)(t:ByteArray)(ao:Option Addr)(cap n:Nat)(w:World)(hbx:Bx w p #[.int .i64 (n:Int)] 243)(hn:n<=1048576)(hd2:depth<=32)(ht:t.size<=16777216) :
 Calls Tryz.prog 187 #[.pointer (some ⟨p,0,none⟩),.string path,.agg #[.int .i64 1,.bool false,.string t,.slice ao 0 cap],.int .i64 (depth:Int)] w
  (gm p w (au path depth 1 false t .nil n)):=by
 have hf:=tX false t;have e1:¬(32:Int)<(depth:Int):=(by omega);have hr1:au path depth 1 false t .nil n=if 1048576<n+gG 1 false t then .bad path 2 else aY .nil path depth none (n+gG 1 false t):=kV hd2 hf
 have Hr:=yH hr1;have Hf:=yH hf;clear hr1
 go_enter Tryz.func187,Tryz.ntmps187
 go_wp2_with fail;refine ae fun w0 hw0=>?_
 obtain⟨b0,x0⟩:=af hw0;clear hw0;refine(qI 1 false t ao 0 cap w0 (by omega)).mono ?_;rintro e w1 ⟨rfl,b1⟩;rw[Hf.out];have Tq:=(hbx.below b0).below b1;have Cc:=x0.below b1;have Tt:Kp (· = p) w w1:=(Kp.of_below b0).then (Kp.of_below b1);have hlt:w.heap.size<w1.heap.size:=(by have:=x0.lt;have:=b1.size;omega);have n0:w1.cell? ⟨w.heap.size,0,none⟩=some (.int .i64 1):=Cc.cell 0;have n1:w1.cell? ⟨w.heap.size,1,none⟩=some (.bool false):=Cc.cell 1;have n2:w1.cell? ⟨w.heap.size,2,none⟩=some (.string t):=Cc.cell 2;clear b0 x0 b1;have hown:gG 1 false t=aj [⟨#[40]⟩,⟨#[116,121,112,101]⟩,⟨#[114,101,103,117,108,97,114]⟩,⟨#[99,111,110,116,101,110,116,115]⟩,t,⟨#[41]⟩]:=rfl;rw[hown]at Hr;have hle:=bM [⟨#[40]⟩,⟨#[116,121,112,101]⟩,⟨#[114,101,103,117,108,97,114]⟩,⟨#[99,111,110,116,101,110,116,115]⟩,t,⟨#[41]⟩];have hb:aB [⟨#[40]⟩,⟨#[116,121,112,101]⟩,⟨#[114,101,103,117,108,97,114]⟩,⟨#[99,111,110,116,101,110,116,115]⟩,t,⟨#[41]⟩]<=t.size+100:=(by simp[aB,bsize];omega);simp only[List.length_cons,List.length_nil]at hle;clear hown
 go_wp2_with fail;refine ae fun w2 hw2=>?_
 obtain⟨b2,x2⟩:=af hw2;clear hw2;have uG:=Tq.below b2;have xG:=Tt.then (Kp.of_below b2);refine(kH _ 6 _ [⟨#[40]⟩,⟨#[116,121,112,101]⟩,⟨#[114,101,103,117,108,97,114]⟩,⟨#[99,111,110,116,101,110,116,115]⟩,t,⟨#[41]⟩] _ x2 rfl (by decide) (by simp[aB,bsize];omega)).mono ?_;rintro e w2' ⟨rfl,rfl⟩;have n1':w2.cell? ⟨w.heap.size,1,none⟩=some (.bool false):=(Cc.below b2).cell 1;generalize aj [⟨#[40]⟩,⟨#[116,121,112,101]⟩,⟨#[114,101,103,117,108,97,114]⟩,⟨#[99,111,110,116,101,110,116,115]⟩,t,⟨#[41]⟩]=m1 at *;by_cases hfit:1048576<n+m1
 ·rw[if_pos hfit]at Hr
  go_wp2_with fail;refine(IK p path n (m1) _ (uG.cell 0) (uG.frozen 0) hn (by omega) hfit).mono ?_;rintro e w9 ⟨rfl,rfl⟩
  go_wp2_with fail;refine⟨rfl,(?_:gm _ _ _ _ _)⟩;rw[Hr.out];exact⟨rfl,(bQ xG uG _).2⟩
 ·rw[if_neg hfit]at Hr
  go_wp2_with fail;refine(zT p path n (m1) _ (uG.cell 0) (uG.frozen 0) hn (by omega) (by omega)).mono ?_;rintro e w9 ⟨rfl,rfl⟩
  go_wp2_with fail
  go_end0;refine(?_:gm _ _ _ _ _);rw[Hr.out];exact⟨rfl,(bQ xG uG _).1,by omega,(bQ xG uG _).2⟩
set_option maxRecDepth 100000 in
theorem EW(p:Nat)(path:ByteArray)(depth:Nat)(t:ByteArray)(ao:Option Addr)(cap n:Nat)(w:World)(hbx:Bx w p #[.int .i64 (n:Int)] 243)(hn:n<=1048576)(hd2:depth<=32)(ht:t.size<=16777216) :
 Calls Tryz.prog 187 #[.pointer (some ⟨p,0,none⟩),.string path,.agg #[.int .i64 1,.bool true,.string t,.slice ao 0 cap],.int .i64 (depth:Int)] w
  (gm p w (au path depth 1 true t .nil n)):=by
 have hf:=tX true t;have e1:¬(32:Int)<(depth:Int):=(by omega);have hr1:au path depth 1 true t .nil n=if 1048576<n+gG 1 true t then .bad path 2 else aY .nil path depth none (n+gG 1 true t):=kV hd2 hf
 have Hr:=yH hr1;have Hf:=yH hf;clear hr1
 go_enter Tryz.func187,Tryz.ntmps187
 go_wp2_with fail;refine ae fun w0 hw0=>?_
 obtain⟨b0,x0⟩:=af hw0;clear hw0;refine(qI 1 true t ao 0 cap w0 (by omega)).mono ?_;rintro e w1 ⟨rfl,b1⟩;rw[Hf.out];have Tq:=(hbx.below b0).below b1;have Cc:=x0.below b1;have Tt:Kp (· = p) w w1:=(Kp.of_below b0).then (Kp.of_below b1);have hlt:w.heap.size<w1.heap.size:=(by have:=x0.lt;have:=b1.size;omega);have n0:w1.cell? ⟨w.heap.size,0,none⟩=some (.int .i64 1):=Cc.cell 0;have n1:w1.cell? ⟨w.heap.size,1,none⟩=some (.bool true):=Cc.cell 1;have n2:w1.cell? ⟨w.heap.size,2,none⟩=some (.string t):=Cc.cell 2;clear b0 x0 b1;have hown:gG 1 true t=aj [⟨#[40]⟩,⟨#[116,121,112,101]⟩,⟨#[114,101,103,117,108,97,114]⟩,⟨#[99,111,110,116,101,110,116,115]⟩,t,⟨#[41]⟩]+aj [⟨#[101,120,101,99,117,116,97,98,108,101]⟩,⟨#[]⟩]:=dR _ _;rw[hown]at Hr;have hle:=bM [⟨#[40]⟩,⟨#[116,121,112,101]⟩,⟨#[114,101,103,117,108,97,114]⟩,⟨#[99,111,110,116,101,110,116,115]⟩,t,⟨#[41]⟩];have hle2:=bM [⟨#[101,120,101,99,117,116,97,98,108,101]⟩,⟨#[]⟩];have hb:aB [⟨#[40]⟩,⟨#[116,121,112,101]⟩,⟨#[114,101,103,117,108,97,114]⟩,⟨#[99,111,110,116,101,110,116,115]⟩,t,⟨#[41]⟩]<=t.size+100:=(by simp[aB,bsize];omega);have hb2:aB [⟨#[101,120,101,99,117,116,97,98,108,101]⟩,⟨#[]⟩]<=100:=(by simp[aB,bsize]);simp only[List.length_cons,List.length_nil]at hle hle2;clear hown
 go_wp2_with fail;refine ae fun w2 hw2=>?_
 obtain⟨b2,x2⟩:=af hw2;clear hw2;have uG:=Tq.below b2;have xG:=Tt.then (Kp.of_below b2);refine(kH _ 6 _ [⟨#[40]⟩,⟨#[116,121,112,101]⟩,⟨#[114,101,103,117,108,97,114]⟩,⟨#[99,111,110,116,101,110,116,115]⟩,t,⟨#[41]⟩] _ x2 rfl (by decide) (by simp[aB,bsize];omega)).mono ?_;rintro e w2' ⟨rfl,rfl⟩;have n1':w2.cell? ⟨w.heap.size,1,none⟩=some (.bool true):=(Cc.below b2).cell 1;generalize aj [⟨#[40]⟩,⟨#[116,121,112,101]⟩,⟨#[114,101,103,117,108,97,114]⟩,⟨#[99,111,110,116,101,110,116,115]⟩,t,⟨#[41]⟩]=m1 at *
 go_wp2_with fail;refine ae fun w3 hw3=>?_
 obtain⟨b3,x3⟩:=af hw3;clear hw3;have PG:=uG.below b3;have xH:=xG.then (Kp.of_below b3);refine(kH _ 2 _ [⟨#[101,120,101,99,117,116,97,98,108,101]⟩,⟨#[]⟩] _ x3 rfl (by decide) (by simp[aB,bsize])).mono ?_;rintro e w3' ⟨rfl,rfl⟩;generalize aj [⟨#[101,120,101,99,117,116,97,98,108,101]⟩,⟨#[]⟩]=m2 at *
 go_wp2_with fail;have hcast:((m1:Int)+(m2:Int))=((m1+m2:Nat):Int):=(by omega);rw[hcast];clear hcast;have hm3:m1+m2<=2000000000:=(by omega);generalize m1+m2=m3 at *;by_cases hfit:1048576<n+m3
 ·rw[if_pos hfit]at Hr;refine(IK p path n (m3) _ (PG.cell 0) (PG.frozen 0) hn (by omega) hfit).mono ?_;rintro e w9 ⟨rfl,rfl⟩
  go_wp2_with fail;refine⟨rfl,(?_:gm _ _ _ _ _)⟩;rw[Hr.out];exact⟨rfl,(bQ xH PG _).2⟩
 ·rw[if_neg hfit]at Hr;refine(zT p path n (m3) _ (PG.cell 0) (PG.frozen 0) hn (by omega) (by omega)).mono ?_;rintro e w9 ⟨rfl,rfl⟩
  go_wp2_with fail
  go_end0;refine(?_:gm _ _ _ _ _);rw[Hr.out];exact⟨rfl,(bQ xH PG _).1,by omega,(bQ xH PG _).2⟩
set_option maxRecDepth 100000 in
theorem U7(p:Nat)(path:ByteArray)(depth:Nat)(t:ByteArray)(ao:Option Addr)(cap n:Nat)(w:World)(hbx:Bx w p #[.int .i64 (n:Int)] 243)(hn:n<=1048576)(hd2:depth<=32)(ht:t.size<=16777216)(hf:aG 2 false t 0=0) :
 Calls Tryz.prog 187 #[.pointer (some ⟨p,0,none⟩),.string path,.agg #[.int .i64 2,.bool false,.string t,.slice ao 0 cap],.int .i64 (depth:Int)] w
  (gm p w (au path depth 2 false t .nil n)):=by
 have e1:¬(32:Int)<(depth:Int):=(by omega);have hr1:au path depth 2 false t .nil n=if 1048576<n+gG 2 false t then .bad path 2 else aY .nil path depth none (n+gG 2 false t):=kV hd2 hf
 have Hr:=yH hr1;have Hf:=yH hf;clear hr1
 go_enter Tryz.func187,Tryz.ntmps187
 go_wp2_with fail;refine ae fun w0 hw0=>?_
 obtain⟨b0,x0⟩:=af hw0;clear hw0;refine(qI 2 false t ao 0 cap w0 (by omega)).mono ?_;rintro e w1 ⟨rfl,b1⟩;rw[Hf.out];have Tq:=(hbx.below b0).below b1;have Cc:=x0.below b1;have Tt:Kp (· = p) w w1:=(Kp.of_below b0).then (Kp.of_below b1);have hlt:w.heap.size<w1.heap.size:=(by have:=x0.lt;have:=b1.size;omega);have n0:w1.cell? ⟨w.heap.size,0,none⟩=some (.int .i64 2):=Cc.cell 0;have n1:w1.cell? ⟨w.heap.size,1,none⟩=some (.bool false):=Cc.cell 1;have n2:w1.cell? ⟨w.heap.size,2,none⟩=some (.string t):=Cc.cell 2;clear b0 x0 b1;have hown:gG 2 false t=aj [⟨#[40]⟩,⟨#[116,121,112,101]⟩,⟨#[115,121,109,108,105,110,107]⟩,⟨#[116,97,114,103,101,116]⟩,t,⟨#[41]⟩]:=rfl;rw[hown]at Hr;have hle:=bM [⟨#[40]⟩,⟨#[116,121,112,101]⟩,⟨#[115,121,109,108,105,110,107]⟩,⟨#[116,97,114,103,101,116]⟩,t,⟨#[41]⟩];have hb:aB [⟨#[40]⟩,⟨#[116,121,112,101]⟩,⟨#[115,121,109,108,105,110,107]⟩,⟨#[116,97,114,103,101,116]⟩,t,⟨#[41]⟩]<=t.size+100:=(by simp[aB,bsize];omega);simp only[List.length_cons,List.length_nil]at hle;clear hown
 go_wp2_with fail;refine ae fun w2 hw2=>?_
 obtain⟨b2,x2⟩:=af hw2;clear hw2;have uG:=Tq.below b2;have xG:=Tt.then (Kp.of_below b2);refine(kH _ 6 _ [⟨#[40]⟩,⟨#[116,121,112,101]⟩,⟨#[115,121,109,108,105,110,107]⟩,⟨#[116,97,114,103,101,116]⟩,t,⟨#[41]⟩] _ x2 rfl (by decide) (by simp[aB,bsize];omega)).mono ?_;rintro e w2' ⟨rfl,rfl⟩;generalize aj [⟨#[40]⟩,⟨#[116,121,112,101]⟩,⟨#[115,121,109,108,105,110,107]⟩,⟨#[116,97,114,103,101,116]⟩,t,⟨#[41]⟩]=m1 at *;by_cases hfit:1048576<n+m1
 ·rw[if_pos hfit]at Hr
  go_wp2_with fail;refine(IK p path n (m1) _ (uG.cell 0) (uG.frozen 0) hn (by omega) hfit).mono ?_;rintro e w9 ⟨rfl,rfl⟩
  go_wp2_with fail;refine⟨rfl,(?_:gm _ _ _ _ _)⟩;rw[Hr.out];exact⟨rfl,(bQ xG uG _).2⟩
 ·rw[if_neg hfit]at Hr
  go_wp2_with fail;refine(zT p path n (m1) _ (uG.cell 0) (uG.frozen 0) hn (by omega) (by omega)).mono ?_;rintro e w9 ⟨rfl,rfl⟩
  go_wp2_with fail
  go_end0;refine(?_:gm _ _ _ _ _);rw[Hr.out];exact⟨rfl,(bQ xG uG _).1,by omega,(bQ xG uG _).2⟩
theorem iH{nm:ByteArray}{k:Int}{ex:Bool}{t:ByteArray}{sub rest:Tr.Kids}{path:ByteArray}{depth:Nat}{prev:Option ByteArray}{n:Nat}(h1:bK nm=0)(h2:behind prev nm=false) :
 aY (.cons nm k ex t sub rest) path depth prev n=if 1048576<n+dJ nm then .bad (dh path nm depth) 2 else match au (dh path nm depth) (depth+1) k ex t sub (n+dJ nm)with
  | .bad p c=>.bad p c
  | .ok m=>aY rest path depth (some nm) m:=by
 rw[aY,if_neg (fun h=>h h1),if_neg (by rw[h2];decide)];by_cases h3:1048576<n+dJ nm
 ·rw[if_pos h3,if_pos h3]
 ·rw[if_neg h3,if_neg h3];unfold au;cases oV (dh path nm depth) (depth+1) k ex t sub.len (n+dJ nm)<;>rfl
set_option maxRecDepth 100000 in
theorem node3(S:Nat->Prop)(p:Nat)(hSp:¬S p)(m:Nat)(ks:Tr.Kids)(hm:ks.bulk<=m)
 (ih:∀(ks:Tr.Kids),ks.bulk<m->∀(path:ByteArray) (depth:Nat) (k:Int) (ex:Bool) (t:ByteArray) (kv:Value) (n:Nat) (w:World),
  ay S w kv ks->Bx w p #[.int .i64 (n:Int)] 243->n<=1048576->1<=depth->depth<=33->path.size+ks.bulk<=16777216->t.size<=16777216 ->
  Calls Tryz.prog 187 #[.pointer (some ⟨p,0,none⟩),.string path,.agg #[.int .i64 k,.bool ex,.string t,kv],.int .i64 (depth:Int)] w (gm p w (au path depth k ex t ks n)))
 (path:ByteArray) (depth:Nat) (t:ByteArray) (ao:Option Addr) (cap n:Nat) (w:World) (hk:ay S w (.slice ao ks.len cap) ks) (hbx:Bx w p #[.int .i64 (n:Int)] 243) (hn:n<=1048576) (hd1:1<=depth) (hd2:depth<=32)
 (GM:path.size+ks.bulk<=16777216) (ht:t.size<=16777216) (hf:aG 3 false t ks.len=0) :
 Calls Tryz.prog 187 #[.pointer (some ⟨p,0,none⟩),.string path,.agg #[.int .i64 3,.bool false,.string t,.slice ao ks.len cap],.int .i64 (depth:Int)] w
  (gm p w (au path depth 3 false t ks n)):=by
 have hp:=hbx.lt;have hlen:=ks.jD;have e1:¬(32:Int)<(depth:Int):=(by omega);have hr1:au path depth 3 false t ks n=if 1048576<n+gG 3 false t then .bad path 2 else aY ks path depth none (n+gG 3 false t):=kV hd2 hf
 have hown:gG 3 false t=aj [⟨#[40]⟩,⟨#[116,121,112,101]⟩,⟨#[100,105,114,101,99,116,111,114,121]⟩,⟨#[41]⟩]:=rfl;rw[hown]at hr1;have hle:=bM [⟨#[40]⟩,⟨#[116,121,112,101]⟩,⟨#[100,105,114,101,99,116,111,114,121]⟩,⟨#[41]⟩];have hb:aB [⟨#[40]⟩,⟨#[116,121,112,101]⟩,⟨#[100,105,114,101,99,116,111,114,121]⟩,⟨#[41]⟩]<=100:=(by simp[aB,bsize]);simp only[List.length_cons,List.length_nil]at hle;have Hr:=yH hr1;have Hf:=yH hf;have Hk:=yH hk;clear hr1 hown hf hk
 go_enter Tryz.func187,Tryz.ntmps187
 go_wp2_with fail;refine ae fun w0 hw0=>?_
 obtain⟨b0,x0⟩:=af hw0;clear hw0;refine(qI 3 false t ao ks.len cap w0 (by omega)).mono ?_;rintro e w1 ⟨rfl,b1⟩;rw[Hf.out];have Tq:=(hbx.below b0).below b1;have Cc:=x0.below b1;have Tt:Kp (· = p) w w1:=(Kp.of_below b0).then (Kp.of_below b1);have hlt:w.heap.size<w1.heap.size:=(by have:=x0.lt;have:=b1.size;omega);have n0:w1.cell? ⟨w.heap.size,0,none⟩=some (.int .i64 3):=Cc.cell 0;clear b0 x0 b1
 go_wp2_with fail;refine ae fun w2 hw2=>?_
 obtain⟨b2,x2⟩:=af hw2;clear hw2;have uG:=Tq.below b2;have xn2:=Cc.below b2;have xG:=Tt.then (Kp.of_below b2);refine(kH _ 4 _ [⟨#[40]⟩,⟨#[116,121,112,101]⟩,⟨#[100,105,114,101,99,116,111,114,121]⟩,⟨#[41]⟩] _ x2 rfl (by decide) (by simp[aB,bsize])).mono ?_;rintro e w2' ⟨rfl,rfl⟩;generalize aj [⟨#[40]⟩,⟨#[116,121,112,101]⟩,⟨#[100,105,114,101,99,116,111,114,121]⟩,⟨#[41]⟩]=m1 at *;by_cases hfit:1048576<n+m1
 ·rw[if_pos hfit]at Hr
  go_wp2_with fail;refine(IK p path n (m1) _ (uG.cell 0) (uG.frozen 0) hn (by omega) hfit).mono ?_;rintro e w9 ⟨rfl,rfl⟩
  go_wp2_with fail;refine⟨rfl,(?_:gm _ _ _ _ _)⟩;rw[Hr.out];exact⟨rfl,(bQ xG uG _).2⟩
 rw[if_neg hfit]at Hr
 go_wp2_with fail;refine(zT p path n (m1) _ (uG.cell 0) (uG.frozen 0) hn (by omega) (by omega)).mono ?_;rintro e w3 ⟨rfl,hw3⟩;obtain⟨PG,xH⟩:=bQ xG uG (.int .i64 ((n+m1:Nat):Int));have xn3:=xn2.aH (p:=⟨p,0,none⟩) (.int .i64 ((n+m1:Nat):Int)) (show w.heap.size≠p by omega);rw[hw3]at PG xH xn3;have n3:w3.cell? ⟨w.heap.size,3,none⟩=some (.slice ao ks.len cap):=xn3.cell 3;have hlt3:w.heap.size<w3.heap.size:=xn3.lt;clear hw3 b2 x2 uG xn2 xG Tq Cc Tt n0 hle hb
 go_wp2_with fail
 go_loopw [64,10,11,12,13] (fun i _ _ _ _ wr=>∃j nj:Nat,j<=ks.len/\i = .int .i64 j/\Bx wr p #[.int .i64 (nj:Int)] 243/\nj<=1048576/\Kp (· = p) w3 wr/\Hid (au path depth 3 false t ks n=aY (ks.drop j) path depth (ks.ahead j none) nj)) (fun i _ _ _ _ _=>ks.len-(intOf i).toNat)
 case atStart=>exact⟨0,n+m1,Nat.zero_le _,rfl,PG,by omega,Kp.refl _ _,yH (by rw[Hr.out,Kids.drop_zero,Kids.ahead_zero])⟩
 case round =>
  obtain⟨j,nj,hj,rfl,hxp,BF,hkp,HR⟩:=hrel;by_cases hlt:j<ks.len
  ·obtain⟨ao',cap',hv,hcl,hcm,hel⟩:=Hk.out;injection hv with hv1 hv2 hv3;subst hv1;subst hv3;clear hv2;rcases hel with rfl|⟨b,off,rfl,hel⟩
   ·simp[Kids.len]at hlt
   have hkw:Kp (· = p) w wr:=xH.then hkp;have iF:=hel.ag (Ag.bg hkw (fun k _ hs e=>hSp (e▸hs)));obtain⟨nm,kd,ex,tx,sub,r,dL,cap2,hd0,qw,hSb,g0,g1,g2,g3,g4,hsub,hbk⟩:=iF.at' hlt;have ha:=ks.iG j none hd0;have Zu:=yH iF;have hnp:w.heap.size≠p:=(by omega);have xnr:=xn3.kp hkp hnp;have nr3:wr.cell? ⟨w.heap.size,3,none⟩=some (.slice (some ⟨b,off,none⟩) ks.len cap):=xnr.cell 3;have hun:aY (ks.drop j) path depth (ks.ahead j none) nj=aY (.cons nm kd ex tx sub r) path depth (ks.ahead j none) nj:=(by rw[hd0]);have HR2:=yH (HR.out.trans hun);have HD:=yH qw;have HA:=yH ha;have j0:(0:Int)<=(j:Int):=Int.natCast_nonneg _;have j1:(j:Int)<(ks.len:Int):=(by omega);clear hd0 qw ha hun HR hel iF hkw;have zep:p<wr.heap.size:=hxp.lt;have hwr:w.heap.size<wr.heap.size:=xnr.lt
   go_wp2_with fail;refine ae fun w4 hw4=>?_
   obtain⟨b4,x4⟩:=af hw4;clear hw4 g1 g2 g3 g4;have zcd:=hxp.below b4;have PK:Kp (· = p) w w4:=(xH.then hkp).then (Kp.of_below b4);have zce:Kp (· = p) w3 w4:=hkp.then (Kp.of_below b4);have q0:w4.cell? ⟨wr.heap.size,0,none⟩=some (.string nm):=x4.cell 0;refine(U6 path nm depth _ (by omega) (by omega)).mono ?_;rintro e w4' ⟨rfl,rfl⟩;have hbs:(dh path nm depth).size<=path.size+nm.size+1:=by
    unfold dh;split
    ·omega
    ·simp[ByteArray.size_append,bsize];omega
   have HB:Hid (dh path nm depth=dh path nm depth):=yH rfl;generalize hat:dh path nm depth=at' at *;have HAT:=yH hat;clear hat HB
   go_wp2_with fail;refine(Zt nm _ (by omega)).mono ?_;rintro e w5 ⟨rfl,b5⟩;have x5:=x4.below b5;have Zv:=zcd.below b5;have GN:Kp (· = p) w w5:=PK.then (Kp.of_below b5);have Zw:Kp (· = p) w3 w5:=zce.then (Kp.of_below b5);have xn5:=(xnr.below b4).below b5;have q0':w5.cell? ⟨wr.heap.size,0,none⟩=some (.string nm):=x5.cell 0;have hn1:aY (.cons nm kd ex tx sub r) path depth (ks.ahead j none) nj=aY (.cons nm kd ex tx sub r) path depth (ks.ahead j none) nj:=rfl;by_cases hnm:bK nm=0
   ·have zH:=yH hnm;rw[hnm];clear hnm hn1;by_cases hj0:j=0
    ·subst hj0;have hbe:behind (ks.ahead 0 none) nm=false:=(by rw[Kids.ahead_zero];rfl);have uA:=yH hbe;clear hbe
     go_wp2_with fail
     go_quiet (fail)
     go_wp2_with fail;refine ae fun w6 hw6=>?_
     obtain⟨b6,x6⟩:=af hw6;clear hw6;have Lt:Below w5.heap.size w5 w6:=(Dn.drewN w5 nq).below.trans b6;have x56:=x5.below Lt;have nI:=Zv.below Lt;have Lu:Kp (· = p) w w6:=GN.then (Kp.of_below Lt);have U8:Kp (· = p) w3 w6:=Zw.then (Kp.of_below Lt);have hle:=bM [⟨#[101,110,116,114,121]⟩,⟨#[40]⟩,⟨#[110,97,109,101]⟩,nm,⟨#[110,111,100,101]⟩,⟨#[41]⟩];have hbb:aB [⟨#[101,110,116,114,121]⟩,⟨#[40]⟩,⟨#[110,97,109,101]⟩,nm,⟨#[110,111,100,101]⟩,⟨#[41]⟩]<=nm.size+100:=(by simp[aB,bsize];omega);simp only[List.length_cons,List.length_nil]at hle;have hres:aY (.cons nm kd ex tx sub r) path depth (ks.ahead 0 none) nj=if 1048576<nj+aj [⟨#[101,110,116,114,121]⟩,⟨#[40]⟩,⟨#[110,97,109,101]⟩,nm,⟨#[110,111,100,101]⟩,⟨#[41]⟩]then .bad at' 2 else match au at' (depth+1) kd ex tx sub (nj+aj [⟨#[101,110,116,114,121]⟩,⟨#[40]⟩,⟨#[110,97,109,101]⟩,nm,⟨#[110,111,100,101]⟩,⟨#[41]⟩])with
      | .bad p c=>.bad p c
      | .ok m=>aY r path depth (some nm) m:=by
      rw[iH zH.out uA.out,HAT.out];rfl
     have lY:=yH (HR2.out.trans hres);clear hres HR2;refine(kH _ 6 _ [⟨#[101,110,116,114,121]⟩,⟨#[40]⟩,⟨#[110,97,109,101]⟩,nm,⟨#[110,111,100,101]⟩,⟨#[41]⟩] _ x6 rfl (by decide) (by simp[aB,bsize];omega)).mono ?_;rintro e w6' ⟨rfl,rfl⟩;generalize aj [⟨#[101,110,116,114,121]⟩,⟨#[40]⟩,⟨#[110,97,109,101]⟩,nm,⟨#[110,111,100,101]⟩,⟨#[41]⟩]=m6 at *;by_cases wu:1048576<nj+m6
     ·rw[if_pos wu]at lY
      go_wp2_with fail;refine(IK p at' nj (m6) _ (nI.cell 0) (nI.frozen 0) BF (by omega) wu).mono ?_;rintro e w9 ⟨rfl,rfl⟩
      go_wp2_with fail;refine⟨rfl,(?_:gm _ _ _ _ _)⟩;rw[lY.out];exact⟨rfl,(bQ Lu nI _).2⟩
     rw[if_neg wu]at lY
     go_wp2_with fail;refine(zT p at' nj (m6) _ (nI.cell 0) (nI.frozen 0) BF (by omega) (by omega)).mono ?_;rintro e w7 ⟨rfl,hw7⟩;obtain⟨LC,Zx⟩:=bQ Lu nI (.int .i64 ((nj+m6:Nat):Int));have LD:=(bQ U8 nI (.int .i64 ((nj+m6:Nat):Int))).2;have x7:=x56.aH (p:=⟨p,0,none⟩) (.int .i64 ((nj+m6:Nat):Int)) (show wr.heap.size≠p by omega);rw[hw7]at LC Zx LD x7;have a1:w7.cell? ⟨wr.heap.size,1,none⟩=some (.int .i64 kd):=x7.cell 1;have a2:w7.cell? ⟨wr.heap.size,2,none⟩=some (.bool ex):=x7.cell 2;have a3:w7.cell? ⟨wr.heap.size,3,none⟩=some (.string tx):=x7.cell 3;have a4:w7.cell? ⟨wr.heap.size,4,none⟩=some (.slice dL sub.len cap2):=x7.cell 4;have LG:ay S w7 (.slice dL sub.len cap2) sub:=hsub.ag (Ag.bg (M:=(· = p)) (((Kp.of_below (b4.trans (b5.mono b4.size))).then (Kp.of_below (Lt.mono (Nat.le_refl _)))).then ((bQ (Kp.refl _ w6) nI (.int .i64 ((nj+m6:Nat):Int))).2.trans (hw7▸Kp.refl (· = p) _) (fun _ _ h=>h) (fun _ _ h=>h))) (fun k _ hs e=>hSp (e▸hs)));clear hw7
     go_wp2_with fail;refine(ih sub (by omega) at' (depth+1) kd ex tx _ (nj+m6) _ LG LC (by omega) (by omega) (by omega) (by omega) (by omega)).mono ?_;intro e w8 hpost;cases hnr:au at' (depth+1) kd ex tx sub (nj+m6)with
     | bad q c =>
      rw[hnr]at hpost lY;obtain⟨rfl,Ce⟩:=hpost;clear hnr
      go_wp2_with fail;refine⟨rfl,(?_:gm _ _ _ _ _)⟩;rw[lY.out];exact⟨rfl,Zx.then Ce⟩
     | ok m8 =>
      rw[hnr]at hpost lY;obtain⟨rfl,U9,hm8,Ce⟩:=hpost;clear hnr
      go_wp2_with fail
      go_roundw
      case rel=>exact⟨0+1,m8,by omega,by go_num,U9,hm8,LD.then Ce,yH (by rw[lY.out,HD.out,HA.out])⟩
      case measure=>simp[intOf];omega
    ·obtain⟨pn,pkd,pex,ptx,zeq,pr,pao,zer,hpd,_,_,gp,_⟩:=Zu.out.at' (j:=j-1) (by omega);have hap:=ks.iG (j-1) none hpd;rw[show j-1+1=j by omega]at hap;have gp':w5.cell? ⟨b,off+(j-1)*5,none⟩=some (.string pn):=(by rw[b5.cell (World.block_lt_of_cell? w4 _ ((b4.cell (World.block_lt_of_cell? wr _ gp)).trans gp)),b4.cell (World.block_lt_of_cell? wr _ gp)];exact gp);have e5:w5.cell? ⟨w.heap.size,3,none⟩=some (.slice (some ⟨b,off,none⟩) ks.len cap):=xn5.cell 3;have jj0:0<j:=(by omega);have jj1:decide ((0:Int)<(j:Int))=true:=(by simp;omega);have jj2:(0:Int)<=(j:Int)-1:=(by omega);have jj3:(j:Int)-1<(ks.len:Int):=(by omega);have HAP:=yH hap;clear hpd gp hap;by_cases J3:leB nm pn=true
     ·have hres:aY (.cons nm kd ex tx sub r) path depth (ks.ahead j none) nj = .bad at' 64:=(by rw[aY,if_neg (fun h=>h zH.out),HAP.out,if_pos (show behind (some pn) nm=true from J3),HAT.out]);have lY:=yH (HR2.out.trans hres);have HBH:=yH J3;clear hres HR2 J3
      go_wp2_with fail
      go_quiet (fail);rw[show(Op.bytesLess nm.toList pn.toList||nm.toList==pn.toList)=true from HBH.out]
      go_wp2_with fail;refine⟨rfl,(?_:gm _ _ _ _ _)⟩;rw[lY.out];exact⟨rfl,GN.then (Kp.kE (Dn.drewN _ _))⟩
     ·have hbf:leB nm pn=false:=(by simpa using J3);have hbe:behind (ks.ahead j none) nm=false:=(by rw[HAP.out];exact hbf);have uA:=yH hbe;have HBF:=yH hbf;clear hbe hbf J3
      go_wp2_with fail
      go_quiet (fail);rw[show(Op.bytesLess nm.toList pn.toList||nm.toList==pn.toList)=false from HBF.out]
      go_wp2_with fail;refine ae fun w6 hw6=>?_
      obtain⟨b6,x6⟩:=af hw6;clear hw6;have Lt:Below w5.heap.size w5 w6:=(Dn.drewN w5 nq).below.trans b6;have x56:=x5.below Lt;have nI:=Zv.below Lt;have Lu:Kp (· = p) w w6:=GN.then (Kp.of_below Lt);have U8:Kp (· = p) w3 w6:=Zw.then (Kp.of_below Lt);have hle:=bM [⟨#[101,110,116,114,121]⟩,⟨#[40]⟩,⟨#[110,97,109,101]⟩,nm,⟨#[110,111,100,101]⟩,⟨#[41]⟩];have hbb:aB [⟨#[101,110,116,114,121]⟩,⟨#[40]⟩,⟨#[110,97,109,101]⟩,nm,⟨#[110,111,100,101]⟩,⟨#[41]⟩]<=nm.size+100:=(by simp[aB,bsize];omega);simp only[List.length_cons,List.length_nil]at hle;have hres:aY (.cons nm kd ex tx sub r) path depth (ks.ahead j none) nj=if 1048576<nj+aj [⟨#[101,110,116,114,121]⟩,⟨#[40]⟩,⟨#[110,97,109,101]⟩,nm,⟨#[110,111,100,101]⟩,⟨#[41]⟩]then .bad at' 2 else match au at' (depth+1) kd ex tx sub (nj+aj [⟨#[101,110,116,114,121]⟩,⟨#[40]⟩,⟨#[110,97,109,101]⟩,nm,⟨#[110,111,100,101]⟩,⟨#[41]⟩])with
       | .bad p c=>.bad p c
       | .ok m=>aY r path depth (some nm) m:=by
       rw[iH zH.out uA.out,HAT.out];rfl
      have lY:=yH (HR2.out.trans hres);clear hres HR2;refine(kH _ 6 _ [⟨#[101,110,116,114,121]⟩,⟨#[40]⟩,⟨#[110,97,109,101]⟩,nm,⟨#[110,111,100,101]⟩,⟨#[41]⟩] _ x6 rfl (by decide) (by simp[aB,bsize];omega)).mono ?_;rintro e w6' ⟨rfl,rfl⟩;generalize aj [⟨#[101,110,116,114,121]⟩,⟨#[40]⟩,⟨#[110,97,109,101]⟩,nm,⟨#[110,111,100,101]⟩,⟨#[41]⟩]=m6 at *;by_cases wu:1048576<nj+m6
      ·rw[if_pos wu]at lY
       go_wp2_with fail;refine(IK p at' nj (m6) _ (nI.cell 0) (nI.frozen 0) BF (by omega) wu).mono ?_;rintro e w9 ⟨rfl,rfl⟩
       go_wp2_with fail;refine⟨rfl,(?_:gm _ _ _ _ _)⟩;rw[lY.out];exact⟨rfl,(bQ Lu nI _).2⟩
      rw[if_neg wu]at lY
      go_wp2_with fail;refine(zT p at' nj (m6) _ (nI.cell 0) (nI.frozen 0) BF (by omega) (by omega)).mono ?_;rintro e w7 ⟨rfl,hw7⟩;obtain⟨LC,Zx⟩:=bQ Lu nI (.int .i64 ((nj+m6:Nat):Int));have LD:=(bQ U8 nI (.int .i64 ((nj+m6:Nat):Int))).2;have x7:=x56.aH (p:=⟨p,0,none⟩) (.int .i64 ((nj+m6:Nat):Int)) (show wr.heap.size≠p by omega);rw[hw7]at LC Zx LD x7;have a1:w7.cell? ⟨wr.heap.size,1,none⟩=some (.int .i64 kd):=x7.cell 1;have a2:w7.cell? ⟨wr.heap.size,2,none⟩=some (.bool ex):=x7.cell 2;have a3:w7.cell? ⟨wr.heap.size,3,none⟩=some (.string tx):=x7.cell 3;have a4:w7.cell? ⟨wr.heap.size,4,none⟩=some (.slice dL sub.len cap2):=x7.cell 4;have LG:ay S w7 (.slice dL sub.len cap2) sub:=hsub.ag (Ag.bg (M:=(· = p)) (((Kp.of_below (b4.trans (b5.mono b4.size))).then (Kp.of_below (Lt.mono (Nat.le_refl _)))).then ((bQ (Kp.refl _ w6) nI (.int .i64 ((nj+m6:Nat):Int))).2.trans (hw7▸Kp.refl (· = p) _) (fun _ _ h=>h) (fun _ _ h=>h))) (fun k _ hs e=>hSp (e▸hs)));clear hw7
      go_wp2_with fail;refine(ih sub (by omega) at' (depth+1) kd ex tx _ (nj+m6) _ LG LC (by omega) (by omega) (by omega) (by omega) (by omega)).mono ?_;intro e w8 hpost;cases hnr:au at' (depth+1) kd ex tx sub (nj+m6)with
      | bad q c =>
       rw[hnr]at hpost lY;obtain⟨rfl,Ce⟩:=hpost;clear hnr
       go_wp2_with fail;refine⟨rfl,(?_:gm _ _ _ _ _)⟩;rw[lY.out];exact⟨rfl,Zx.then Ce⟩
      | ok m8 =>
       rw[hnr]at hpost lY;obtain⟨rfl,U9,hm8,Ce⟩:=hpost;clear hnr
       go_wp2_with fail
       go_roundw
       case rel=>exact⟨j+1,m8,by omega,by go_num,U9,hm8,LD.then Ce,yH (by rw[lY.out,HD.out,HA.out])⟩
       case measure=>simp[intOf];omega
   ·have q:(bK nm != 0)=true:=(by simp[hnm]);have hres:aY (.cons nm kd ex tx sub r) path depth (ks.ahead j none) nj = .bad at' (bK nm):=(by unfold aY;rw[if_pos hnm,HAT.out]);have lY:=yH (HR2.out.trans hres);clear hres hn1 HR2 hnm;generalize bK nm=ne at *
    go_wp2_with fail;refine⟨rfl,(?_:gm _ _ _ _ _)⟩;rw[lY.out];exact⟨rfl,GN⟩
  ·obtain rfl:j=ks.len:=(by omega)
   go_wp2_with fail
   go_end0;refine(?_:gm _ _ _ _ _);rw[HR.out,Kids.gV _ _ (Nat.le_refl _)];exact⟨rfl,hxp,BF,xH.then hkp⟩
set_option maxRecDepth 100000 in
theorem Qe(p:Nat)(path:ByteArray)(depth:Nat)(k:Int)(ex:Bool)(t:ByteArray)(ks:Tr.Kids)(ao:Option Addr)(cap n:Nat)(w:World)(hd2:depth<=33)(ht:t.size<=16777216)(hb:32<depth∨aG k ex t ks.len≠0) :
 Calls Tryz.prog 187 #[.pointer (some ⟨p,0,none⟩),.string path,.agg #[.int .i64 k,.bool ex,.string t,.slice ao ks.len cap],.int .i64 (depth:Int)] w
  (gm p w (au path depth k ex t ks n)):=by
 by_cases d33:32<depth
 ·have e1:(32:Int)<(depth:Int):=(by omega);have hr:au path depth k ex t ks n = .bad path 61:=(by unfold au oV;rw[if_pos d33]);rw[hr]
  go_enter Tryz.func187,Tryz.ntmps187
  go_wp2_with fail;exact⟨rfl,rfl,Kp.of_below ((Below.refl _ w).alloc (Nat.le_refl _) _)⟩
 ·have hf0:=hb.resolve_left d33;have e1:¬(32:Int)<(depth:Int):=(by omega);have hr1:au path depth k ex t ks n = .bad path (aG k ex t ks.len):=(by unfold au oV;rw[if_neg d33,if_pos hf0]);have Hr:=yH hr1;have HF:=yH hf0;clear hr1 hb hf0
  go_enter Tryz.func187,Tryz.ntmps187
  go_wp2_with fail;refine ae fun w0 hw0=>?_
  obtain⟨b0,x0⟩:=af hw0;clear hw0;refine(qI k ex t ao ks.len cap w0 (by omega)).mono ?_;rintro e w1 ⟨rfl,b1⟩;have q:(aG k ex t ks.len != 0)=true:=(by have:=HF.out;simp[this]);generalize aG k ex t ks.len=fe at *
  go_wp2_with fail;refine⟨rfl,(?_:gm _ _ _ _ _)⟩;rw[Hr.out];exact⟨rfl,(Kp.of_below b0).then (Kp.of_below b1)⟩
theorem LH(S:Nat->Prop)(p:Nat)(hSp:¬S p):∀(m:Nat) (ks:Tr.Kids),ks.bulk<m->∀(path:ByteArray) (depth:Nat) (k:Int) (ex:Bool) (t:ByteArray) (kv:Value) (n:Nat) (w:World),
 ay S w kv ks->Bx w p #[.int .i64 (n:Int)] 243->n<=1048576->1<=depth->depth<=33->path.size+ks.bulk<=16777216->t.size<=16777216 ->
 Calls Tryz.prog 187 #[.pointer (some ⟨p,0,none⟩),.string path,.agg #[.int .i64 k,.bool ex,.string t,kv],.int .i64 (depth:Int)] w
  (gm p w (au path depth k ex t ks n)):=by
 intro m
 induction m with
 | zero=>intro ks h;omega
 | succ m ih =>
  intro ks hm path depth k ex t kv n w hkv hbx hn hd1 hd2 GM ht;have hk0:=hkv;obtain⟨ao,cap,rfl,hcl,hcm,hel⟩:=hkv;by_cases hb:32<depth∨aG k ex t ks.len≠0
  ·exact Qe p path depth k ex t ks ao cap n w hd2 ht hb
  ·have d32:depth<=32:=Nat.le_of_not_lt fun h=>hb (.inl h)
   have hf:aG k ex t ks.len=0:=Decidable.byContradiction fun h=>hb (.inr h)
   rcases zU hf with⟨rfl,h0⟩|⟨rfl,h0,rfl⟩|⟨rfl,rfl⟩
   ·obtain rfl:=Kids.eq_nil h0;cases ex
    ·exact EU p path depth t ao cap n w hbx hn d32 ht
    ·exact EW p path depth t ao cap n w hbx hn d32 ht
   ·obtain rfl:=Kids.eq_nil h0;exact U7 p path depth t ao cap n w hbx hn d32 ht hf
   ·exact node3 S p hSp m ks (by omega) ih path depth t ao cap n w hk0 hbx hn hd1 d32 GM ht hf
end Go.Proofs.YtmmmghpimdfleaaGreatDoor.jC
