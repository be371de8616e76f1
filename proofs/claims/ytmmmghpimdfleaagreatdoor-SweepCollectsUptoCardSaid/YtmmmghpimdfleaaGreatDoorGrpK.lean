/-
  slices.Index, Contains, Equal at []string.
  slices.BinarySearch at []string: the kit's worked walk, turned to this program (tools/zeJ.py).
  slices.Insert at []string: the kit's worked walks, turned to this program (tools/turn.py).
  slices.Insert at []string where there is no room (tools/turn.py).
-/
import Derived.Test.YtmmmghpimdfleaaGreatDoorTk
import Derived.Test.YtmmmghpimdfleaaGreatDoorGrpJ
import Derived.Deep.LoopGhost
import Derived.Deep.Draws
import Derived.Shelf.RegionOpenPlain
import Derived.Lib.SliceRun
import Derived.Lib.JoinLaws
import Derived.Lib.AppendZeros
import Derived.Lib.Overlaps
import Derived.Laws.Externs
import Derived.Laws.IdiomCopy
import Derived.Lib.AppendZerosOnto
import Derived.Laws.NewBlocks
set_option linter.unusedVariables false
set_option maxHeartbeats 4000000
namespace Go.Proofs.YtmmmghpimdfleaaGreatDoor
namespace Sl
open Go.RowKit Mem
def zbb(w:World)(l:List ByteArray)(x:ByteArray)(e:Ending)(w':World):Prop:=∃z:Int,e = .returned (.int .i64 z)/\(0<=z↔x∈l)/\w'=w
def PostB(w:World)(l:List ByteArray)(x:ByteArray)(e:Ending)(w':World):Prop:=∃b:Bool,e = .returned (.bool b)/\(b=true↔x∈l)/\w'=w
theorem Xf(v:Value)(l:List ByteArray)(x:ByteArray)(w:World)(hr:Texts.Reads w v l) :
 Calls Tryz.prog 129 #[v,.string x] w (zbb w l x):=by
 rcases hr with⟨ao,cap,rfl,rfl⟩|⟨b,off,cap,rfl,hm,hc⟩
 ·go_enter Tryz.func129,Tryz.ntmps129
  go_wp2_with fail
  go_loopw [8] (fun i wr=>i = .int .i64 0/\Hid (w=wr)) (fun _ _=>0)
  case atStart=>exact⟨rfl,yH rfl⟩
  case round =>
   obtain⟨rfl,hw⟩:=hrel;obtain rfl:=hw.out
   go_wp2_with fail
   go_ret;exact⟨-1,rfl,by simp,rfl⟩
 obtain⟨n,hn⟩:∃n,l.length=n:=⟨_,rfl⟩;rw[hn]at hm ⊢;have Hn:=yH hn;have Hc:=yH hc;clear hc hn
 go_enter Tryz.func129,Tryz.ntmps129
 go_wp2_with fail
 go_loopw [8] (fun i wr=>∃k:Nat,k<=n/\i = .int .i64 k/\Hid (∀j (h:j<l.length),j<k->l[j]≠x)/\Hid (w=wr)) (fun i _=>n-(intOf i).toNat)
 case atStart=>exact⟨0,by omega,rfl,yH (fun j _ h=>absurd h (by omega)),yH rfl⟩
 case round =>
  obtain⟨k,hk,rfl,vU,hw⟩:=hrel;obtain rfl:=hw.out;clear hw;by_cases hlt:k<n
  ·have k0:(0:Int)<=(k:Int):=Int.natCast_nonneg _;have k1:(k:Int)<(n:Int):=(by omega);have hkl:k<l.length:=(by rw[Hn.out];exact hlt);have g1:=Hc.out k hkl;by_cases he:l[k]=x
   ·have hin:x∈l:=he▸List.getElem_mem hkl;rw[he]at g1;have tt:(x.toList==x.toList)=true:=(by simp);have HIN:=yH hin;clear he hin
    go_wp2_with fail
    go_ret;exact⟨k,rfl,⟨fun _=>HIN.out,fun _=>k0⟩,rfl⟩
   ·have hne:(x.toList==l[k].toList)=false:=by
     rw[Lib.toList_data,Lib.toList_data]
     simpa using fun e=>he (Lb.str_eq e).symm
    have HE:=yH he;obtain⟨y,hy⟩:∃y,l[k]=y:=⟨_,rfl⟩;rw[hy]at g1 hne;have HY:=yH hy;clear he hy
    go_wp2_with fail
    go_roundw
    case rel=>exact⟨k+1,by omega,by go_num,yH (fun j hj hjk=>by
     rcases Nat.lt_succ_iff_lt_or_eq.mp hjk with h|h
     ·exact vU.out j hj h
     ·subst h;exact HE.out),by first|exact yH rfl|exact yH trivial⟩
    case measure=>simp[intOf];omega
  ·have k2:¬(k:Int)<n:=(by omega);have hnot:¬x∈l:=fun h=>by
    obtain⟨j,hj,he⟩:=List.getElem_of_mem h;exact vU.out j hj (by have:=Hn.out;omega) he
   have HN:=yH hnot;clear hnot
   go_wp2_with fail
   go_ret;exact⟨-1,rfl,⟨fun h=>absurd h (by omega),fun h=>absurd h HN.out⟩,rfl⟩
theorem su(v:Value)(l:List ByteArray)(x:ByteArray)(w:World)(hr:Texts.Reads w v l) :
 Calls Tryz.prog 86 #[v,.string x] w (PostB w l x):=by
 have hC:=Xf v l x w hr
 go_enter Tryz.func86,Tryz.ntmps86
 go_wp2_with (first|(refine hC.mono ?_;rintro e w1 ⟨z,rfl,hz,rfl⟩))
 go_ret;exact⟨_,rfl,by rw[decide_eq_true_iff];exact hz,rfl⟩
end Sl
set_option linter.unusedSimpArgs false
namespace Bs
open Go.RowKit
/-- The halving of slices.BinarySearch: 'for i < j { h := (i + j) / 2; if less(x[h], target) { i = h + 1 } else { j = h } }; return i'. -/
def bsGo(less:Nat->Bool):Nat->Nat->Nat->Nat
 | 0,lo,_=>lo
 | f+1,lo,hi=>if lo<hi then(if less ((lo+hi) / 2)then bsGo less f ((lo+hi) / 2+1) hi else bsGo less f lo ((lo+hi) / 2))else lo
theorem bsGo_fuel(less:Nat->Bool):∀(f g lo hi:Nat),hi-lo<=f->hi-lo<=g->bsGo less f lo hi=bsGo less g lo hi
 | 0,0,_,_,_,_=>rfl
 | 0,g+1,lo,hi,hf,_=>by simp[bsGo,show ¬lo<hi by omega]
 | f+1,0,lo,hi,_,hg=>by simp[bsGo,show ¬lo<hi by omega]
 | f+1,g+1,lo,hi,hf,hg=>by
  unfold bsGo;by_cases h:lo<hi
  ·rw[if_pos h,if_pos h,bsGo_fuel less f g _ _ (by omega) (by omega),bsGo_fuel less f g lo _ (by omega) (by omega)]
  ·rw[if_neg h,if_neg h]
/-- Of a row in which 'less' holds of a head and of nothing behind it: the head's length. -/
theorem bsGo_spec(less:Nat->Bool)(k:Nat)(h1:∀t,t<k->less t=true)(h2:∀t,k<=t->less t=false):∀(f lo hi:Nat),hi-lo<=f->lo<=k->k<=hi->bsGo less f lo hi=k
 | 0,lo,hi,hf,a,b=>by simp[bsGo];omega
 | f+1,lo,hi,hf,a,b=>by
  unfold bsGo;by_cases h:lo<hi
  ·rw[if_pos h];by_cases hm:(lo+hi) / 2<k
   ·rw[h1 _ hm,if_pos rfl];exact bsGo_spec less k h1 h2 f _ _ (by omega) (by omega) b
   ·rw[h2 _ (by omega)];exact bsGo_spec less k h1 h2 f _ _ (by omega) a (by omega)
  ·rw[if_neg h];omega
theorem cmp_isNaN_string(x:ByteArray)(w:World):Calls Tryz.prog 197 #[.string x] w fun e w'=>e = .returned (.bool false)/\w'=w:=by
 go_enter Tryz.func197,Tryz.ntmps197
 go_wp2
 go_ret;exact⟨by simp,rfl⟩
theorem slices_isNaN_string(x:ByteArray)(w:World):Calls Tryz.prog 156 #[.string x] w fun e w'=>e = .returned (.bool false)/\w'=w:=by
 go_enter Tryz.func156,Tryz.ntmps156
 go_wp2
 go_ret;exact⟨by simp,rfl⟩
theorem cmp_Less_string(x y:ByteArray)(w:World):Calls Tryz.prog 155 #[.string x,.string y] w fun e w'=>e = .returned (.bool (Op.bytesLess x.toList y.toList))/\w'=w:=by
 go_enter Tryz.func155,Tryz.ntmps155
 go_wp2_with (go_at_call 197;refine(cmp_isNaN_string _ _).mono ?_;rintro e w' ⟨rfl,rfl⟩)
 go_ret;exact⟨rfl,rfl⟩

set_option maxRecDepth 1000000 in
theorem slices_BinarySearch_string (b off n c : Nat) (Sx : Nat → ByteArray) (x : ByteArray) (w : World) (hbig : n < 4611686018427387904) (hc : ∀ j, j < n → w.cell? ⟨b, off + j, none⟩ = some (.string (Sx j))) :
    Calls Tryz.prog 117 #[.slice (some ⟨b, off, none⟩) n c, .string x] w fun e w' =>
      e = .returned (.tuple #[.int .i64 (bsGo (fun t => Op.bytesLess (Sx t).toList x.toList) n 0 n : Nat), .bool (decide (bsGo (fun t => Op.bytesLess (Sx t).toList x.toList) n 0 n < n ∧ Sx (bsGo (fun t => Op.bytesLess (Sx t).toList x.toList) n 0 n) = x))]) ∧ ∃ q, w' = w.drewN q := by
  obtain ⟨I, hI⟩ : ∃ I, bsGo (fun t => Op.bytesLess (Sx t).toList x.toList) n 0 n = I := ⟨_, rfl⟩
  rw [hI]
  go_enter Tryz.func117, Tryz.ntmps117
  go_wp2
  go_loopg [7, 8] n (fun g s7 s8 wr => ∃ lo hi q : Nat, s7 = .int .i64 lo ∧ s8 = .int .i64 hi ∧ lo ≤ hi ∧ hi ≤ n ∧ hi - lo ≤ g ∧ wr = w.drewN q ∧ bsGo (fun t => Op.bytesLess (Sx t).toList x.toList) g lo hi = I)
  case atStart => exact ⟨0, n, 0, rfl, rfl, Nat.zero_le _, Nat.le_refl _, by omega, rfl, hI⟩
  case round =>
    obtain ⟨lo, hi, q, rfl, rfl, hlh, hin, hg, rfl, hb⟩ := hrel
    by_cases hlt : lo < hi
    · have cm : w.cell? ⟨b, off + (lo + hi) / 2, none⟩ = some (.string (Sx ((lo + hi) / 2))) := hc _ (by omega)
      clear hc
      obtain ⟨g', rfl⟩ : ∃ g', gk = g' + 1 := ⟨gk - 1, by omega⟩
      simp only [bsGo, hlt, if_true] at hb
      obtain ⟨y, hy⟩ : ∃ y, Sx ((lo + hi) / 2) = y := ⟨_, rfl⟩
      rw [hy] at cm
      simp only [hy] at hb
      cases hyx : Op.bytesLess y.toList x.toList <;> simp only [hyx, if_true, Bool.false_eq_true, if_false] at hb
      · go_wp2_with (first | (go_at_call 155; refine (cmp_Less_string _ _ _).mono ?_; rintro e w' ⟨rfl, rfl⟩) | (go_at_call 156; refine (slices_isNaN_string _ _).mono ?_; rintro e w' ⟨rfl, rfl⟩))
        go_roundg ((lo + hi) / 2 - lo)
        case measure => omega
        case rel => exact ⟨lo, (lo + hi) / 2, _, rfl, by rw [show ((lo : Int) + (hi : Int)) / 2 = (((lo + hi) / 2 : Nat) : Int) by omega], by omega, by omega, Nat.le_refl _, rfl, by rw [← hb]; exact bsGo_fuel _ _ _ _ _ (Nat.le_refl _) (by omega)⟩
      · go_wp2_with (first | (go_at_call 155; refine (cmp_Less_string _ _ _).mono ?_; rintro e w' ⟨rfl, rfl⟩) | (go_at_call 156; refine (slices_isNaN_string _ _).mono ?_; rintro e w' ⟨rfl, rfl⟩))
        go_roundg (hi - ((lo + hi) / 2 + 1))
        case measure => omega
        case rel => exact ⟨(lo + hi) / 2 + 1, hi, _, by rw [show ((lo : Int) + (hi : Int)) / 2 + 1 = (((lo + hi) / 2 + 1 : Nat) : Int) by omega], rfl, by omega, hin, Nat.le_refl _, rfl, by rw [← hb]; exact bsGo_fuel _ _ _ _ _ (Nat.le_refl _) (by omega)⟩
    · have : hi = lo := by omega
      subst this
      have hIe : I = hi := by
        rw [← hb]
        cases gk <;> simp [bsGo]
      by_cases hn : hi < n
      · have cl : w.cell? ⟨b, off + hi, none⟩ = some (.string (Sx hi)) := hc _ hn
        clear hc hb hI
        obtain ⟨y, hy⟩ : ∃ y, Sx hi = y := ⟨_, rfl⟩
        rw [hy] at cl
        by_cases hyx : y = x
        · go_wp2_with (first | (go_at_call 155; refine (cmp_Less_string _ _ _).mono ?_; rintro e w' ⟨rfl, rfl⟩) | (go_at_call 156; refine (slices_isNaN_string _ _).mono ?_; rintro e w' ⟨rfl, rfl⟩))
          go_ret2
          refine ⟨?_, _, rfl⟩
          try rw [hIe]
          rw [hy, decide_eq_true (show hi < n ∧ y = x from ⟨hn, hyx⟩)]
          first | rfl | simp [*]
        · have hne : (y.toList == x.toList) = false := by
            rw [beq_eq_false_iff_ne]
            intro h
            apply hyx
            rw [Lib.toList_data, Lib.toList_data] at h
            cases y with
            | mk yd => cases x with
              | mk xd => exact congrArg ByteArray.mk (Array.toList_inj.1 h)
          go_wp2_with (first | (go_at_call 155; refine (cmp_Less_string _ _ _).mono ?_; rintro e w' ⟨rfl, rfl⟩) | (go_at_call 156; refine (slices_isNaN_string _ _).mono ?_; rintro e w' ⟨rfl, rfl⟩))
          all_goals
            (go_ret2
             refine ⟨?_, _, rfl⟩
             try rw [hIe]
             rw [hy, decide_eq_false (show ¬ (hi < n ∧ y = x) from fun h => hyx h.2)]
             first | rfl | simp [*])
      · clear hc hb hI
        go_wp2_with (first | (go_at_call 155; refine (cmp_Less_string _ _ _).mono ?_; rintro e w' ⟨rfl, rfl⟩) | (go_at_call 156; refine (slices_isNaN_string _ _).mono ?_; rintro e w' ⟨rfl, rfl⟩))
        go_ret2
        refine ⟨?_, _, rfl⟩
        try rw [hIe]
        rw [decide_eq_false (show ¬ (hi < n ∧ Sx hi = x) from fun h => hn h.1)]
        first | rfl | simp [*]
set_option maxRecDepth 1000000 in
/-- Of a slice without elements, the nil one too: (0, false); the world is as it was. -/
theorem slices_BinarySearch_string_empty(a:Option Addr)(c:Nat)(x:ByteArray)(w:World) :
 Calls Tryz.prog 117 #[.slice a 0 c,.string x] w fun e w'=>e = .returned (.tuple #[.int .i64 0,.bool false])/\w'=w:=by
 go_enter Tryz.func117,Tryz.ntmps117
 go_wp2
 go_loop [7,8] (fun s7 s8=>s7 = .int .i64 0/\s8 = .int .i64 0) (fun _ _=>0)
 case atStart=>exact⟨rfl,rfl⟩
 case round =>
  obtain⟨rfl,rfl⟩:=hrel
  go_wp2
  go_ret2;exact⟨rfl,rfl⟩

#print axioms slices_BinarySearch_string
#print axioms slices_BinarySearch_string_empty
end Bs
set_option linter.unusedVariables false
set_option linter.unusedSimpArgs false
namespace Ins
open Go.RowKit Go.Lib

section
variable {P : Program}
/-- .. and as one step of a region that draws (for 'go_region_law_o'). -/
theorem step_copy_runI{ops:Array Oper}{o:Oper}{a:Act}{w:World}{K:Act->World->Prop}{Q:Exit->Act->World->Prop}{E:Prop}
 (hg:o.guard=none) (d x:Operand) (dT sT:TypeId) (hop:o.op=Op.call { callee:=Callee.builtin Builtin.copy,args:=#[d,x],argTypes:=#[dT,sT] })
 (v u:Value) (hd:a.eval d=v) (hx:a.eval x=u) {v':Value} {w':World} (hr:(Builtin.copy_ #[dT,sT] o.type #[v,u]).run P w = .ok v' w') (hK:K (a.put o.dst v') w') :
 if Region.wanted o (yielded ops a.tmps)=true then Oper.wp P o a w K Q else E:=by
 have hw:Region.wanted o (yielded ops a.tmps)=true:=(by simp[Region.wanted,hg]);rw[if_pos hw];unfold Oper.wp;simp[execOp,hop,resolve,invoke,builtin,hd,hx,hr,Result.andThen];exact hK
theorem isSome_setCells(b:Nat)(vs:List Value)(o:Nat)(w:World)(h:∀j,j<vs.length->(w.cell? ⟨b,o+j,none⟩).isSome=true)(k:Nat)(hk:(w.cell? ⟨b,k,none⟩).isSome=true):((w.setCells b o vs).cell? ⟨b,k,none⟩).isSome=true:=by
 by_cases hin:o<=k/\k<o+vs.length
 ·have:=World.cell?_setCells_in b vs o w h (k-o) (by omega);rw[show o+(k-o)=k by omega]at this;rw[this];rfl
 ·rw[World.cell?_setCells_out b vs o w ⟨b,k,none⟩ (fun _ _=>by show k<o∨o+vs.length<=k;omega)];exact hk
end
theorem Ry:∀w,(Go.sizeOf 9).run Tryz.prog w = .ok 1 w:=fun _=>by kernel_rfl
set_option maxRecDepth 100000 in
/-- slices.Insert at []string: THERE IS ROOM, i < len(s): in place. -/
theorem slices_Insert_string_shift(b off n c i vb voff m vc:Nat)(cs vs:List Value)(w:World)(hi:i<n)(hm:0<m)(hroom:n+m<=c)(hc63:c<=9223372036854775807)(hvb:vb≠b)
 (hcl:cs.length=n) (hvl:vs.length=m)
 (hcs:∀j v,cs[j]? = some v->w.cell? ⟨b,off+j,none⟩=some v) (hsp:∀j,j<n+m->(w.cell? ⟨b,off+j,none⟩).isSome=true) (hfz:∀j,j<n+m->w.frozen? ⟨b,off+j,none⟩=false)
 (hvs:∀j v,vs[j]? = some v->w.cell? ⟨vb,voff+j,none⟩=some v) (h1c:∀v∈cs,v.oneCell'=true) (h1v:∀v∈vs,v.oneCell'=true)
 (tA tB:TypeId) (kA kB:Nat) (hsa:w.shape? vb=some (tA,kA)) (hsb:w.shape? b=some (tB,kB)) (hkB:kB≠0) (hfa:w.frozen? ⟨vb,voff,none⟩=false) (hfe:w.frozen? ⟨vb,kA,none⟩=false) :
 Calls Tryz.prog 121 #[.slice (some ⟨b,off,none⟩) n c,.int .i64 i,.slice (some ⟨vb,voff,none⟩) m vc] w fun e w' =>
  e = .returned (.slice (some ⟨b,off,none⟩) (n+m) c)/\w'=(w.drew.setCells b (off+(i+m)) (cs.drop i)).setCells b (off+i) vs:=by
 have hz1:¬((m:Int)=0):=(by omega);have hz2:¬((i:Int)=(n:Int)):=(by omega);have hsz:(Tryz.prog.info? 9).map (·.size)=some 1:=(by obtain⟨i0,hi0,h0,h1,h2⟩:=info_parts Make.bI;rw[hi0];simp[h1]);have hov:∀lb cb,(callFunc 157 #[.slice (some ⟨vb,voff,none⟩) m vc,.slice (some ⟨b,off+(i+m),none⟩) lb cb]).run Tryz.prog w = .ok (.value (.bool false)) w:=fun lb cb=>by
  rw[run_callFunc_extern Tryz.func157 (by kernel_rfl) (by kernel_rfl) (by kernel_rfl) (e:=Extern.SlicesOverlaps.overlaps #[27,27] #[4]) (by kernel_rfl),
   Lib.run_overlaps_apart w 27 4 9 Tryz.underlying27 1 Ry ⟨vb,voff,none⟩ ⟨b,off+(i+m),none⟩ m vc lb cb hvb tA tB kA kB hsa hsb hkB hfa hfe]
  rfl
 have hdl:(cs.drop i).length=n-i:=(by rw[List.length_drop,hcl]);have rq:Tryz.prog.follows .mixedOrders=true:=(by kernel_rfl);have hw1:IntKind.i64.wrap ((i:Int)+(m:Int))=(i:Int)+(m:Int):=(by rw[IntKind.wrap_i64];omega);have hb1:(0:Int)<=(i:Int)+(m:Int):=(by omega);have hin:i<=n:=(by omega);have htn:((i:Int)+(m:Int)).toNat=i+m:=(by omega);have hb2:¬(c=i+m):=(by omega);have hb3:(i:Int)<=(n:Int)+(m:Int):=(by omega);have hb4:¬(c=i):=(by omega);have hcp1:∀ty dc sc,(Builtin.copy_ #[27,27] ty #[.slice (some ⟨b,off+(i+m),none⟩) (n+m-(i+m)) dc,.slice (some ⟨b,off+i,none⟩) (n+m-i) sc]).run Tryz.prog w.drew = .ok (goInt (cs.drop i).length) (w.drew.setCells b (off+(i+m)) (cs.drop i)):=fun ty dc sc =>
  run_copy_cells w.drew _ _ ty 9 b (off+(i+m)) (n+m-(i+m)) dc ⟨b,off+i,none⟩ (n+m-i) sc (cs.drop i) Tryz.underlying27 hsz (by rw[hdl];simp only[Nat.min_def];split<;>omega)
   (fun j v hj=>by rw[Addr.add_lit,Nat.add_assoc];exact hcs (i+j) v (by rwa[List.getElem?_drop]at hj))
   (fun j hj=>by rw[Nat.add_assoc];exact hsp _ (by omega)) (fun j hj=>by rw[Nat.add_assoc];exact hfz _ (by omega)) (fun v hv=>h1c v (List.mem_of_mem_drop hv))
 obtain⟨W1,hW1⟩:∃W1,W1=w.drew.setCells b (off+(i+m)) (cs.drop i):=⟨_,rfl⟩;have hsp1:∀k,k<n+m->(W1.cell? ⟨b,off+k,none⟩).isSome=true:=fun k hk=>by
  rw[hW1];exact isSome_setCells b _ _ _ (fun j hj=>by rw[Nat.add_assoc];exact hsp _ (by omega)) _ (hsp k hk)
 have hcp2:∀(W:World),(∀x,W.cell? x=W1.cell? x)->(∀x,W.frozen? x=W1.frozen? x)->∀ty dc,(Builtin.copy_ #[27,27] ty #[.slice (some ⟨b,off+i,none⟩) (n+m-i) dc,.slice (some ⟨vb,voff,none⟩) m vc]).run Tryz.prog W = .ok (goInt vs.length) (W.setCells b (off+i) vs):=fun W hWc hWf ty dc =>
  run_copy_cells W _ _ ty 9 b (off+i) (n+m-i) dc ⟨vb,voff,none⟩ m vc vs Tryz.underlying27 hsz (by rw[hvl];simp only[Nat.min_def];split<;>omega)
   (fun j v hj=>by
    rw[Addr.add_lit,hWc,hW1,World.cell?_setCells_out b _ _ _ _ (fun h _=>absurd h hvb)];exact hvs j v hj)
   (fun j hj=>by rw[hWc,Nat.add_assoc];exact hsp1 _ (by omega)) (fun j hj=>by rw[hWf,hW1,World.frozen?_setCells,Nat.add_assoc];exact hfz _ (by omega)) h1v
 rw[←hW1]at hcp1
 go_enter Tryz.func121,Tryz.ntmps121
 go_wp2_with (simp only[hov])
 go_region_law_o (refine step_copy_runI rfl _ _ 27 27 rfl _ _ (by simp[Act.eval,Act.put]) (by simp[Act.eval,Act.put]) (hcp1 _ _ _) ?_)
 go_wp2_with (at_builtin;refine wpList_copy_runI _ rfl _ _ 27 27 rfl _ _ rfl rfl (hcp2 _ (fun _=>rfl) (fun _=>rfl) _ _) ?_)
 go_ret
 first|exact⟨rfl,rfl⟩|exact⟨rfl,by rw[hW1]⟩
set_option maxRecDepth 100000 in
/-- slices.Insert at []string: AT THE END (i = len(s)), THERE IS ROOM: in place: the spare cells behind the elements take v. -/
theorem slices_Insert_string_end_room(b off n c vb voff m vc:Nat)(vs:List Value)(w:World)(hm:0<m)(hroom:n+m<=c)(hc63:c<=9223372036854775807)
 (hvl:vs.length=m) (hsp:∀j,j<m->(w.cell? ⟨b,off+n+j,none⟩).isSome=true) (hfz:∀j,j<m->w.frozen? ⟨b,off+n+j,none⟩=false)
 (hvs:∀j v,vs[j]? = some v->w.cell? ⟨vb,voff+j,none⟩=some v) (h1v:∀v∈vs,v.oneCell'=true) :
 Calls Tryz.prog 121 #[.slice (some ⟨b,off,none⟩) n c,.int .i64 n,.slice (some ⟨vb,voff,none⟩) m vc] w fun e w' =>
  e = .returned (.slice (some ⟨b,off,none⟩) (n+m) c)/\w'=w.setCells b (off+n) vs:=by
 have rq:Tryz.prog.follows .mixedOrders=true:=(by kernel_rfl);have hz1:¬((m:Int)=0):=(by omega);have hsrc:Src Tryz.prog 1 27 (.slice (some ⟨vb,voff,none⟩) m vc) m vs w:=Src.ofSlice w Tryz.underlying27 ⟨vb,voff,none⟩ m vc vs (by omega) (fun j u hj=>by rw[Addr.add_lit];exact hvs j u hj) h1v
 go_enter Tryz.func121,Tryz.ntmps121
 go_wp2_with (at_builtin;refine wpList_append_room1 _ rfl _ _ 27 27 rfl 9 _ _ Tryz.underlying27 Make.bI b off n c rfl _ rfl m vs hsrc hroom (by rw[hvl];exact hsp) (by rw[hvl];exact hfz) ?_)
 go_ret;exact⟨rfl,rfl⟩
set_option maxRecDepth 100000 in
/-- slices.Insert at []string: AT THE END (i = len(s)), NO ROOM (the nil slice among these: 'base = none', n = c = 0): A NEW ROW: the elements, v, then zero values up to the capacity that the run-time gives; one draw. -/
theorem slices_Insert_string_end_grow(base:Option Addr)(n c vb voff m vc:Nat)(cs vs:List Value)(w:World)(hm:0<m)(hnc:n<=c)(hroom:c<n+m)(hbig:(n+m)*16<=140737488355328)
 (hcl:cs.length=n) (hvl:vs.length=m) (hnil:base=none->n=0)
 (hcs:∀a,base=some a->∀j v,cs[j]? = some v->w.cell? (a.add j)=some v)
 (hvs:∀j v,vs[j]? = some v->w.cell? ⟨vb,voff+j,none⟩=some v) (h1v:∀v∈vs,v.oneCell'=true) :
 Calls Tryz.prog 121 #[.slice base n c,.int .i64 n,.slice (some ⟨vb,voff,none⟩) m vc] w fun e w' =>
  e = .returned (.slice (some ⟨w.heap.size,0,none⟩) (n+m) (grownCap w (n+m) c 9)) /\
  w'=w.drew.alloc (.cells ((cs++vs).toArray++Builtin.zeroCells (Value.string ⟨#[]⟩).cells (grownCap w (n+m) c 9-(n+m))) 9):=by
 have rq:Tryz.prog.follows .mixedOrders=true:=(by kernel_rfl);obtain⟨i0,hi0,hz0,hzs,hzb⟩:=info_parts Make.bI;have hz1:¬((m:Int)=0):=(by omega);have hsrc:Src Tryz.prog i0.size 27 (.slice (some ⟨vb,voff,none⟩) m vc) m vs w:=(by rw[hzs];exact Src.ofSlice w Tryz.underlying27 ⟨vb,voff,none⟩ m vc vs (by omega) (fun j u hj=>by rw[Addr.add_lit];exact hvs j u hj) h1v);have hold:(Builtin.firstCells i0.size n (.slice base n c)).run Tryz.prog w.drew = .ok cs.toArray w.drew:=by
  rw[hzs];cases base with
  | none =>
   have h0:=hnil rfl;subst h0;rw[List.length_eq_zero_iff.1 hcl];exact run_firstCells_none w.drew 1 0 0 c
  | some a=>exact run_firstCells_some w.drew 1 n a n c cs (by omega) (fun j v hj=>hcs a rfl j v hj)
 have hrun:∀ty,(Builtin.append_ #[27,27] ty #[.slice base n c,.slice (some ⟨vb,voff,none⟩) m vc]).run Tryz.prog w=_:=fun ty =>
  run_append_grow_src w 27 27 ty 9 i0 _ Tryz.underlying27 hi0 hz0 base n c cs hold _ m vs hsrc hroom (by omega) (by rw[hzb];exact growslice_fits hroom hbig)
 go_enter Tryz.func121,Tryz.ntmps121;cases base with
 | none =>
  have h0:=hnil rfl;subst h0
  go_wp2_with (at_builtin;refine Lib.wpList_append_run _ rfl _ _ _ _ rfl _ _ rfl rfl _ _ (hrun _) ?_)
  go_ret;exact⟨rfl,rfl⟩
 | some a =>
  obtain⟨ab,ao,asp⟩:=a
  go_wp2_with (at_builtin;refine Lib.wpList_append_run _ rfl _ _ _ _ rfl _ _ rfl rfl _ _ (hrun _) ?_)
  all_goals (go_ret;exact⟨rfl,rfl⟩)
end Ins

namespace Ins
open Go.RowKit Go.Lib
set_option maxRecDepth 100000 in
/-- slices.Insert at []string: i < len(s), NO ROOM: A NEW ROW: what stood ahead of i, v, what stood from i on, then zero values up to the capacity that the run-time gives. s's own cells are as they were. -/
theorem slices_Insert_string_grow(b off n c i vb voff m vc:Nat)(cs vs:List Value)(w:World)(hi:i<n)(hm:0<m)(hnc:n<=c)(hroom:c<n+m)(hbig:(n+m)*16<=140737488355328)
 (hcl:cs.length=n) (hvl:vs.length=m)
 (hcs:∀j v,cs[j]? = some v->w.cell? ⟨b,off+j,none⟩=some v)
 (hvs:∀j v,vs[j]? = some v->w.cell? ⟨vb,voff+j,none⟩=some v) (h1c:∀v∈cs,v.oneCell'=true) (h1v:∀v∈vs,v.oneCell'=true) :
 Calls Tryz.prog 121 #[.slice (some ⟨b,off,none⟩) n c,.int .i64 i,.slice (some ⟨vb,voff,none⟩) m vc] w fun e w' =>
  e = .returned (.slice (some ⟨w.heap.size,0,none⟩) (n+m) (grownCap w (n+m) c 9)) /\
  w'=(((w.alloc (.cells ((cs.take i).toArray++Builtin.zeroCells (Value.string ⟨#[]⟩).cells (n+m-i)++Builtin.zeroCells (Value.string ⟨#[]⟩).cells (grownCap w (n+m) c 9-(n+m))) 9)).drew.setCells w.heap.size i vs).drew).setCells w.heap.size (i+m) (cs.drop i):=by
 have rq:Tryz.prog.follows .mixedOrders=true:=(by kernel_rfl);obtain⟨i0,hi0,hz0,hzs,hzb⟩:=info_parts Make.bI;have hz1:¬((m:Int)=0):=(by omega);have hz2:¬((i:Int)=(n:Int)):=(by omega);have hz3:(c:Int)<(n:Int)+(m:Int):=(by omega);have hsz:(Tryz.prog.info? 9).map (·.size)=some 1:=(by rw[hi0];simp[hzs]);have hbw:b<w.heap.size:=block_lt_of_cell (hcs 0 _ (List.getElem?_eq_getElem (by omega)));have hvw:vb<w.heap.size:=block_lt_of_cell (hvs 0 _ (List.getElem?_eq_getElem (by omega)));have hkk:(n:Int)+(m:Int)-(i:Int)=((n+m-i:Nat):Int):=(by omega);have hik:i+(n+m-i)=n+m:=(by omega);have hold:(Builtin.firstCells i0.size i (.slice (some ⟨b,off,none⟩) i c)).run Tryz.prog w.drew = .ok (cs.take i).toArray w.drew:=by
  rw[hzs];exact run_firstCells_some w.drew 1 i ⟨b,off,none⟩ i c (cs.take i) (by rw[List.length_take];omega) (fun j v hj=>by
   rw[Addr.add_lit];rw[List.getElem?_take]at hj;split at hj
   ·exact hcs j v hj
   ·cases hj)
 have hrz:∀ty,(Builtin.append_ #[27,3] ty #[.slice (some ⟨b,off,none⟩) i c,.int .i64 ((n:Int)+(m:Int)-(i:Int))]).run Tryz.prog w =
  .ok (.slice (some ⟨w.heap.size,0,none⟩) (n+m) (grownCap w (n+m) c 9)) (w.drew.alloc (.cells ((cs.take i).toArray++Builtin.zeroCells (Value.string ⟨#[]⟩).cells (n+m-i)++Builtin.zeroCells (Value.string ⟨#[]⟩).cells (grownCap w (n+m) c 9-(n+m))) 9)):=fun ty=>by
  have h:=Lib.run_append_grow_zeros w 27 3 ty 9 i0 _ .i64 .i64 Tryz.underlying27 Tryz.underlying3 hi0 hz0 (some ⟨b,off,none⟩) i c (cs.take i) hold (n+m-i) (by omega) (by omega) (by omega) (by omega) (by rw[hzb];omega) (by rw[hzb,hik];exact growslice_fits hroom hbig);rw[hik]at h;rw[hkk];exact h
 obtain⟨G,hG⟩:∃G,G=grownCap w (n+m) c 9:=⟨_,rfl⟩;obtain⟨ROW,hROW⟩:∃ROW:Array Value,ROW=(cs.take i).toArray++Builtin.zeroCells (Value.string ⟨#[]⟩).cells (n+m-i)++Builtin.zeroCells (Value.string ⟨#[]⟩).cells (G-(n+m)):=⟨_,rfl⟩;rw[←hG]at hrz ⊢;rw[←hROW]at hrz ⊢;have hRl:n+m<=ROW.size:=(by rw[hROW];simp[Builtin.zeroCells,Value.cells];omega);obtain⟨W1,hW1⟩:∃W1,W1=w.drew.alloc (.cells ROW 9):=⟨_,rfl⟩;rw[←hW1]at hrz;have hN:∀j,j<n+m->(W1.cell? ⟨w.heap.size,j,none⟩).isSome=true:=fun j hj=>by
  rw[hW1,World.cell?_alloc_at (w:=w.drew) ROW _ w.heap.size j rfl,Array.getElem?_eq_getElem (by omega)];rfl
 have hNf:∀j,W1.frozen? ⟨w.heap.size,j,none⟩=false:=fun j=>by rw[hW1];exact World.frozen?_alloc_at (w:=w.drew) ROW _ w.heap.size j rfl
 have hOb:∀j v,w.cell? ⟨b,j,none⟩=some v->W1.cell? ⟨b,j,none⟩=some v:=fun j v h=>by rw[hW1,World.cell?_alloc_past (w:=w.drew) _ b j hbw];exact h
 have hOv:∀j v,w.cell? ⟨vb,j,none⟩=some v->W1.cell? ⟨vb,j,none⟩=some v:=fun j v h=>by rw[hW1,World.cell?_alloc_past (w:=w.drew) _ vb j hvw];exact h
 have hcpA:∀(W:World),(∀x,W.cell? x=W1.cell? x)->(∀x,W.frozen? x=W1.frozen? x)->∀ty dc,(Builtin.copy_ #[27,27] ty #[.slice (some ⟨w.heap.size,i,none⟩) (n+m-i) dc,.slice (some ⟨vb,voff,none⟩) m vc]).run Tryz.prog W = .ok (goInt vs.length) (W.setCells w.heap.size i vs):=fun W hWc hWf ty dc =>
  run_copy_cells W _ _ ty 9 w.heap.size i (n+m-i) dc ⟨vb,voff,none⟩ m vc vs Tryz.underlying27 hsz (by rw[hvl];simp only[Nat.min_def];split<;>omega)
   (fun j v hj=>by rw[Addr.add_lit,hWc];exact hOv _ v (hvs j v hj))
   (fun j hj=>by rw[hWc];exact hN _ (by omega)) (fun j hj=>by rw[hWf];exact hNf _) h1v
 have hGn:n+m<=G:=(by rw[hG];exact grownCap_ge w _ _ _);have hG63:G<=9223372036854775807:=(by have:=grownCap_le_maxLen w (n+m) c 9 (by unfold maxLen;omega);rw[←hG]at this;unfold maxLen at this;omega);have hGi:¬(G=i):=(by omega);have hGim:¬(G=i+m):=(by omega);have hci:¬(c=i):=(by omega);have hbN:b≠w.heap.size:=(by omega);have hdl:(cs.drop i).length=n-i:=(by rw[List.length_drop,hcl]);have hcpB:∀(W:World),(∀x,W.cell? x=(W1.setCells w.heap.size i vs).cell? x)->(∀x,W.frozen? x=(W1.setCells w.heap.size i vs).frozen? x)->∀ty dc sc,(Builtin.copy_ #[27,27] ty #[.slice (some ⟨w.heap.size,i+m,none⟩) (n+m-(i+m)) dc,.slice (some ⟨b,off+i,none⟩) (n-i) sc]).run Tryz.prog W = .ok (goInt (cs.drop i).length) (W.setCells w.heap.size (i+m) (cs.drop i)):=fun W hWc hWf ty dc sc =>
  run_copy_cells W _ _ ty 9 w.heap.size (i+m) (n+m-(i+m)) dc ⟨b,off+i,none⟩ (n-i) sc (cs.drop i) Tryz.underlying27 hsz (by rw[hdl];simp only[Nat.min_def];split<;>omega)
   (fun j v hj=>by
    rw[Addr.add_lit,hWc,World.cell?_setCells_out _ _ _ _ _ (fun h _=>absurd h hbN),Nat.add_assoc];exact hOb _ v (hcs (i+j) v (by rwa[List.getElem?_drop]at hj)))
   (fun j hj=>by rw[hWc];exact isSome_setCells _ _ _ _ (fun t ht=>hN _ (by omega)) _ (hN _ (by omega)))
   (fun j hj=>by rw[hWf,World.frozen?_setCells];exact hNf _) (fun v hv=>h1c v (List.mem_of_mem_drop hv))
 subst hW1;have hE1:∀x,((w.alloc (.cells ROW 9)).drew).cell? x=(w.drew.alloc (.cells ROW 9)).cell? x:=fun x=>rfl
 have hE2:∀x,((w.alloc (.cells ROW 9)).drew).frozen? x=(w.drew.alloc (.cells ROW 9)).frozen? x:=fun x=>rfl
 have hF1:∀x,(((w.alloc (.cells ROW 9)).drew.setCells w.heap.size i vs).drew).cell? x=((w.drew.alloc (.cells ROW 9)).setCells w.heap.size i vs).cell? x:=fun x=>rfl
 have hF2:∀x,(((w.alloc (.cells ROW 9)).drew.setCells w.heap.size i vs).drew).frozen? x=((w.drew.alloc (.cells ROW 9)).setCells w.heap.size i vs).frozen? x:=fun x=>rfl
 have hw1:IntKind.i64.wrap ((i:Int)+(m:Int))=(i:Int)+(m:Int):=(by rw[IntKind.wrap_i64];omega);have hb1:(0:Int)<=(i:Int)+(m:Int):=(by omega);have hin:i<=n:=(by omega);have htn:((i:Int)+(m:Int)).toNat=i+m:=(by omega);have hb3:(i:Int)<=(n:Int):=(by omega);clear hkk hik hold hROW hG hRl
 go_enter Tryz.func121,Tryz.ntmps121
 go_wp2_with (first
  | (at_builtin;refine Lib.wpList_append_run _ rfl _ _ _ _ rfl _ _ rfl rfl _ _ (hrz _) ?_)
  | (at_builtin;refine wpList_copy_runI _ rfl _ _ 27 27 rfl _ _ rfl rfl (hcpA _ hE1 hE2 _ _) ?_)
  | (at_builtin;refine wpList_copy_runI _ rfl _ _ 27 27 rfl _ _ rfl rfl (hcpB _ (fun _=>rfl) (fun _=>rfl) _ _ _) ?_))
 go_region_law_o (refine step_copy_runI rfl _ _ 27 27 rfl (.slice (some ⟨w.heap.size,i+m,none⟩) (n+m-(i+m)) (G-(i+m))) (.slice (some ⟨b,off+i,none⟩) (n-i) (c-i)) (by simp[Act.eval,Act.put]) (by simp[Act.eval,Act.put]) (hcpB _ hF1 hF2 3 (G-(i+m)) (c-i)) ?_)
 go_wp2
 go_ret;exact⟨rfl,rfl⟩
end Ins
end Go.Proofs.YtmmmghpimdfleaaGreatDoor
