/-
  Lemmas and contracts for the laws of synchronisations (layer 43), part 5; several texts joined by a program.
-/
import Derived.Test.YthhekebemmckcaaGreatDoorJ01
import Derived.Test.YthhekebemmckcaaGreatDoorJ04
import Derived.ChangeKeysEq
import Derived.Deep.CutRange
import Derived.Great.BuildSlice
import Derived.Laws.StructEq
import Derived.StillTail
import Derived.StillTailTactics
namespace Go.Proofs.YthhekebemmckcaaGreatDoor
set_option linter.unusedVariables false
set_option linter.unusedSimpArgs false
set_option maxRecDepth 100000
set_option maxHeartbeats 16000000
open Go.RowKit
section
def pathV (i:Nat):Value:= .agg #[.int .i64 ((i / 4 / 4 / 4 % 4:Nat):Int),.int .i64 ((i / 4 / 4 % 4:Nat):Int),.int .i64 ((i / 4 % 4:Nat):Int),.int .i64 ((i % 4:Nat):Int)]
def RetV (v:Value) (w:World) (e:Ending) (w':World):Prop:=e = .returned v∧Below w.heap.size w w'
theorem td4 (i:Nat):(i:Int).tdiv 4=((i / 4:Nat):Int):=by rw [Int.tdiv_eq_ediv_of_nonneg (by omega)];omega
theorem tm4 (i:Nat):(i:Int).tmod 4=((i % 4:Nat):Int):=by rw [Int.tmod_eq_emod_of_nonneg (by omega)];omega
theorem route_w (i:Nat) (w:World) (hi:i<256):Calls Tryz.prog 143 #[.int .i64 i] w (RetV (pathV i) w):=by
 have d0:=td4 i
 have m0:=tm4 i
 have d1:=td4 (i / 4)
 have m1:=tm4 (i / 4)
 have d2:=td4 (i / 4 / 4)
 have m2:=tm4 (i / 4 / 4)
 have d3:=td4 (i / 4 / 4 / 4)
 have m3:=tm4 (i / 4 / 4 / 4)
 unfold pathV
 have b1:i / 4<64:=by omega
 have b2:i / 4 / 4<16:=by omega
 have b3:i / 4 / 4 / 4<4:=by omega
 have a0:i % 4<4:=by omega
 have a1:i / 4 % 4<4:=by omega
 have a2:i / 4 / 4 % 4<4:=by omega
 have a3:i / 4 / 4 / 4 % 4<4:=by omega
 generalize i / 4 / 4 / 4 % 4=r3 at *
 generalize i / 4 / 4 / 4 / 4=q4 at *
 generalize i / 4 / 4 / 4=q3 at *
 generalize i / 4 / 4 % 4=r2 at *
 generalize i / 4 / 4=q2 at *
 generalize i / 4 % 4=r1 at *
 generalize i / 4=q1 at *
 generalize i % 4=r0 at *
 have w0:=w64 (x:=(r0:Int)) (by omega)
 have w1:=w64 (x:=(r1:Int)) (by omega)
 have w2:=w64 (x:=(r2:Int)) (by omega)
 have w3:=w64 (x:=(r3:Int)) (by omega)
 have v1:=w64 (x:=(q1:Int)) (by omega)
 have v2:=w64 (x:=(q2:Int)) (by omega)
 have v3:=w64 (x:=(q3:Int)) (by omega)
 go_enter Tryz.func143,Tryz.ntmps143
 go_upto_region 2 with fail
 go_wp2
 refine wp_loop_rounds 5 ?_
 rw [rounds_succ];go_wp2
 rw [rounds_succ];go_wp2
 rw [rounds_succ];go_wp2
 rw [rounds_succ];go_wp2
 rw [rounds_succ];go_wp2
 exact bodyPost_ret (v:= .agg #[.int .i64 r3,.int .i64 r2,.int .i64 r1,.int .i64 r0]) (by simp [results,Tryz.results143,go_sem]) rfl ⟨rfl,((Below.refl w.heap.size w).alloc (Nat.le_refl _) _).alloc (by simp) _⟩
theorem info_of {P:Program} {t:TypeId} {n:Nat} (h:(P.info? t).map (·.size)=some n):∃j,P.info? t=some j∧j.size=n:=by
 cases hj:P.info? t with
 | none=>rw [hj] at h;cases h
 | some j=>rw [hj] at h;exact ⟨j,rfl,by simpa using h⟩
theorem item_int (d:Nat) (xs ys:Array Value) (is:List Nat) (w:World) (i:Nat) (x y:Int) (hx:xs[i]?=some (.int .i64 x)) (hy:ys[i]?=some (.int .i64 y)) :
  (Op.eqItems (d+1) 3 1 xs ys (i :: is)).run Tryz.prog w=if x == y then (Op.eqItems (d+1) 3 1 xs ys is).run Tryz.prog w else .ok false w:=by
 have h1:(part 3 xs i).run Tryz.prog w = .ok (.int .i64 x) w:=by simp [part,isAgg,run_underlying Tryz.underlying3,go_sem,hx]
 have h2:(part 3 ys i).run Tryz.prog w = .ok (.int .i64 y) w:=by simp [part,isAgg,run_underlying Tryz.underlying3,go_sem,hy]
 have h3:=run_equalIn_int w d 3 .i64 .i64 x y Tryz.underlying3
 simp only [Op.eqItems,Nat.mul_one,Sem.run_ite,Sem.run_bind,h1,h2,h3,Result.andThen_ok]
 by_cases h:x=y
 ·subst h;simp
 ·simp [h,Sem.run_pure]
theorem path_eql (a b c d:Int) (w:World):(Op.equalIn 10000 199 (.agg #[.int .i64 a,.int .i64 b,.int .i64 c,.int .i64 d]) (.agg #[.int .i64 0,.int .i64 0,.int .i64 0,.int .i64 0])).run Tryz.prog w = .ok (a == 0&&(b == 0&&(c == 0&&d == 0))) w:=by
 obtain ⟨k,hk,hks⟩:=info_of (P:=Tryz.prog) (t:=3) (n:=1) (by kernel_rfl)
 have hc:Tryz.prog.cellsOf 3=1:=by kernel_rfl
 rw [show (10000:Nat)=9999+1 from rfl,run_equalIn_array w 9999 _ _ Tryz.underlying199 hk,hc]
 rw [show List.range 4=[0,1,2,3] from rfl,show (9999:Nat)=9998+1 from rfl]
 rw [item_int 9998 _ _ _ w 0 a 0 rfl rfl,item_int 9998 _ _ _ w 1 b 0 rfl rfl,item_int 9998 _ _ _ w 2 c 0 rfl rfl,item_int 9998 _ _ _ w 3 d 0 rfl rfl]
 cases a == 0 <;> cases b == 0 <;> cases c == 0 <;> cases d == 0 <;> simp [Op.eqItems,Sem.run_pure]
def hf (i:Nat):Nat:=if i=0 then 0 else if i<4 then 1 else if i<16 then 2 else if i<64 then 3 else 4
theorem height_w (i:Nat) (w:World) (hi:i<256):Calls Tryz.prog 144 #[pathV i] w (RetI (hf i) w):=by
 unfold pathV
 have HB:=H_ (fun o:Obj=>(Below.refl w.heap.size w).alloc (Nat.le_refl _) o)
 have H4:=H_ (fun h:¬i / 4 / 4 / 4 % 4=0=>show hf i=4 by unfold hf;rw [if_neg (by omega),if_neg (by omega),if_neg (by omega),if_neg (by omega)])
 have H3:=H_ (fun (h:i / 4 / 4 / 4 % 4=0) (h':¬i / 4 / 4 % 4=0)=>show hf i=3 by unfold hf;rw [if_neg (by omega),if_neg (by omega),if_neg (by omega),if_pos (by omega)])
 have H2:=H_ (fun (h:i / 4 / 4 / 4 % 4=0) (h':i / 4 / 4 % 4=0) (h'':¬i / 4 % 4=0)=>show hf i=2 by unfold hf;rw [if_neg (by omega),if_neg (by omega),if_pos (by omega)])
 have H1:=H_ (fun (h:i / 4 / 4 / 4 % 4=0) (h':i / 4 / 4 % 4=0) (h'':i / 4 % 4=0) (h3:¬i % 4=0)=>show hf i=1 by unfold hf;rw [if_neg (by omega),if_pos (by omega)])
 have H0:=H_ (fun (h:i / 4 / 4 / 4 % 4=0) (h':i / 4 / 4 % 4=0) (h'':i / 4 % 4=0) (h3:i % 4=0)=>show hf i=0 by unfold hf;rw [if_pos (by omega)])
 generalize i / 4 / 4 / 4 % 4=r3 at *
 generalize i / 4 / 4 % 4=r2 at *
 generalize i / 4 % 4=r1 at *
 generalize i % 4=r0 at *
 generalize hf i=y at *
 by_cases h3:r3=0
 ·subst h3
  by_cases h2:r2=0
  ·subst h2
   by_cases h1:r1=0
   ·subst h1
    by_cases h0:r0=0
    ·subst h0
     obtain rfl:=H0.out rfl rfl rfl rfl
     clear H4 H3 H2 H1 H0
     have hE:=fun w=>path_eql 0 0 0 0 w
     go_enter Tryz.func144,Tryz.ntmps144
     go_wp2
     refine wp_loop_rounds 5 ?_
     rw [rounds_succ];go_wp2
     rw [rounds_succ];go_wp2
     rw [rounds_succ];go_wp2
     rw [rounds_succ];go_wp2
     rw [rounds_succ];go_wp2
     go_ret
     exact ⟨rfl,HB.out _⟩
    ·obtain rfl:=H1.out rfl rfl rfl h0
     clear H4 H3 H2 H1 H0
     have h0':((r0:Int) == 0)=false:=beq_eq_false_iff_ne.2 (by omega)
     have h0'':¬(r0:Int)=0:=by omega
     have hE:=fun w=>path_eql 0 0 0 (r0:Int) w
     go_enter Tryz.func144,Tryz.ntmps144
     go_wp2
     refine wp_loop_rounds 5 ?_
     rw [rounds_succ];go_wp2
     rw [rounds_succ];go_wp2
     rw [rounds_succ];go_wp2
     rw [rounds_succ];go_wp2
     go_ret
     exact ⟨rfl,HB.out _⟩
   ·obtain rfl:=H2.out rfl rfl h1
    clear H4 H3 H2 H1 H0
    have h0':((r1:Int) == 0)=false:=beq_eq_false_iff_ne.2 (by omega)
    have h0'':¬(r1:Int)=0:=by omega
    have hE:=fun w=>path_eql 0 0 (r1:Int) (r0:Int) w
    go_enter Tryz.func144,Tryz.ntmps144
    go_wp2
    refine wp_loop_rounds 5 ?_
    rw [rounds_succ];go_wp2
    rw [rounds_succ];go_wp2
    rw [rounds_succ];go_wp2
    go_ret
    exact ⟨rfl,HB.out _⟩
  ·obtain rfl:=H3.out rfl h2
   clear H4 H3 H2 H1 H0
   have h0':((r2:Int) == 0)=false:=beq_eq_false_iff_ne.2 (by omega)
   have h0'':¬(r2:Int)=0:=by omega
   have hE:=fun w=>path_eql 0 (r2:Int) (r1:Int) (r0:Int) w
   go_enter Tryz.func144,Tryz.ntmps144
   go_wp2
   refine wp_loop_rounds 5 ?_
   rw [rounds_succ];go_wp2
   rw [rounds_succ];go_wp2
   go_ret
   exact ⟨rfl,HB.out _⟩
 ·obtain rfl:=H4.out h3
  clear H4 H3 H2 H1 H0
  have h0':((r3:Int) == 0)=false:=beq_eq_false_iff_ne.2 (by omega)
  have h0'':¬(r3:Int)=0:=by omega
  have hE:=fun w=>path_eql (r3:Int) (r2:Int) (r1:Int) (r0:Int) w
  go_enter Tryz.func144,Tryz.ntmps144
  go_wp2
  refine wp_loop_rounds 5 ?_
  rw [rounds_succ];go_wp2
  go_ret
  exact ⟨rfl,HB.out _⟩
theorem inside_w (i:Int) (w:World):Calls Tryz.prog 103 #[.int .i64 i] w fun e w'=>e = .returned (.bool (decide (0≤i∧i≤255)))∧w=w':=by
 by_cases h0:0≤i
 ·by_cases h1:i≤255
  ·rw [decide_eq_true ⟨h0,h1⟩]
   go_enter Tryz.func103,Tryz.ntmps103
   go_wp2
   go_ret
   exact ⟨rfl,rfl⟩
  ·rw [dF (by omega)]
   go_enter Tryz.func103,Tryz.ntmps103
   go_wp2
   go_ret
   exact ⟨rfl,rfl⟩
 ·rw [dF (by omega)]
  go_enter Tryz.func103,Tryz.ntmps103
  go_wp2
  go_ret
  exact ⟨rfl,rfl⟩
end
section
abbrev trV (h:Int) (A:Option Addr) (n cap:Nat) (v m:Int):Value:= .agg #[.int .i64 h,.slice A n cap,.int .i64 v,.int .i64 m]
def oneB (m:Int):Bool:=decide (m=1∨m=2∨m=4)
theorem one_w (m:Int) (w:World):Calls Tryz.prog 167 #[.int .i64 m] w fun e w'=>e = .returned (.bool (oneB m))∧w=w':=by
  by_cases h1:m=1
  ·subst h1
   go_enter Tryz.func167,Tryz.ntmps167
   go_wp2
   go_ret
   exact ⟨rfl,rfl⟩
  ·have e1:(m == 1)=false:=beq_eq_false_iff_ne.2 h1
   by_cases h2:m=2
   ·subst h2
    go_enter Tryz.func167,Tryz.ntmps167
    go_wp2
    go_ret
    exact ⟨rfl,rfl⟩
   ·have e2:(m == 2)=false:=beq_eq_false_iff_ne.2 h2
    by_cases h4:m=4
    ·subst h4
     go_enter Tryz.func167,Tryz.ntmps167
     go_wp2
     go_ret
     exact ⟨rfl,rfl⟩
    ·have e4:(m == 4)=false:=beq_eq_false_iff_ne.2 h4
     have HR:=H_ (show oneB m=false from dF (by omega))
     go_enter Tryz.func167,Tryz.ntmps167
     go_wp2
     go_ret
     exact ⟨ret_bool HR.out.symm,rfl⟩
theorem power_w (h:Nat) (w:World) (hh:h≤4):Calls Tryz.prog 159 #[.int .i64 h] w fun e w'=>e = .returned (.int .i64 ((4 ^ h:Nat):Int))∧w=w':=by
 go_enter Tryz.func159,Tryz.ntmps159
 go_wp2
 go_loopw [3,4] (fun s3 s4 wx=>∃k:Nat,k≤h∧s4 = .int .i64 k∧s3 = .int .i64 ((4 ^ k:Nat):Int)∧w=wx) (fun _ s4 _=>h - (intOf s4).toNat)
 case atStart=>exact ⟨0,by omega,rfl,rfl,by first | rfl | trivial⟩
 case round=>
  obtain ⟨k,hk,rfl,rfl,rfl⟩:=hrel
  have HP:=H_ (show ((4 ^ (k+1):Nat):Int)=((4 ^ k:Nat):Int)*4 by rw [Nat.pow_succ];omega)
  have hpk:4 ^ k≤4 ^ 4:=Nat.pow_le_pow_right (by omega) (by omega)
  obtain ⟨p,hp⟩:∃p,4 ^ k=p:=⟨_,rfl⟩
  rw [hp] at HP hpk ⊢
  have Hp:=H_ hp
  clear hp
  by_cases hlt:k<h
  ·have k1:(k:Int)<(h:Int):=by omega
   have wp:=w64 (x:=(p:Int)*4) (by omega)
   go_wp2
   go_roundw
   case rel=>exact ⟨k+1,by omega,by go_num,by rw [HP.out],by first | rfl | trivial⟩
   case measure=>simp [intOf];omega
  ·obtain rfl:k=h:=by omega
   go_wp2
   go_ret
   exact ⟨by rw [Hp.out];rfl,rfl⟩
theorem heightFor_w (i:Nat) (w:World) (hi:i<256):Calls Tryz.prog 154 #[.int .i64 i] w fun e w'=>e = .returned (.int .i64 (hf i))∧w=w':=by
 have hp0:=power_w 0
 have hp1:=power_w 1
 have hp2:=power_w 2
 have hp3:=power_w 3
 have hp4:=power_w 4
 have hfv:(i<1∧hf i=0)∨(1≤i∧i<4∧hf i=1)∨(4≤i∧i<16∧hf i=2)∨(16≤i∧i<64∧hf i=3)∨(64≤i∧hf i=4):=by unfold hf;(repeat' split) <;> omega
 go_enter Tryz.func154,Tryz.ntmps154
 go_wp2
 go_loopw [3] (fun s3 wx=>∃k:Nat,k≤hf i∧s3 = .int .i64 k∧w=wx) (fun s3 _=>hf i - (intOf s3).toNat)
 case atStart=>exact ⟨0,by omega,rfl,by first | rfl | trivial⟩
 case round=>
  obtain ⟨k,hk,rfl,rfl⟩:=hrel
  have hk4:k≤4:=by omega
  have hpw:=power_w k w hk4
  have hcmp:(k<hf i→4 ^ k≤i)∧(k=hf i→i<4 ^ k):=by
   match k,hk4 with
   | 0,_=>omega
   | 1,_=>omega
   | 2,_=>omega
   | 3,_=>omega
   | 4,_=>omega
   | k+5,h=>omega
  generalize 4 ^ k=p at hpw hcmp
  clear hp0 hp1 hp2 hp3 hp4 hfv
  by_cases hlt:k<hf i
  ·have k1:(p:Int)≤(i:Int):=by have:=hcmp.1 hlt;omega
   clear hcmp
   go_wp2_with (go_at_call 159;(with_reducible refine CM hpw ?_);rintro e w1 ⟨rfl,rfl⟩)
   go_roundw
   case rel=>exact ⟨k+1,by omega,by go_num,by first | rfl | trivial⟩
   case measure=>simp [intOf];omega
  ·obtain rfl:k=hf i:=by omega
   have k1:¬(p:Int)≤(i:Int):=by have:=hcmp.2 rfl;omega
   clear hcmp
   go_wp2_with (go_at_call 159;(with_reducible refine CM hpw ?_);rintro e w1 ⟨rfl,rfl⟩)
   go_ret
   exact ⟨rfl,rfl⟩
theorem high_found {t k:T} {i:Nat} (h:t.kids[i]?=some k) (hi:1≤i) (he:k.emB=false):highT t=true:=by
 unfold highT someK
 rw [List.any_eq_true]
 refine ⟨k,List.mem_of_getElem? (i:=i - 1) ?_,by rw [he];rfl⟩
 rw [List.getElem?_drop,show 1+(i - 1)=i by omega]
 exact h
theorem high_none {t:T} (h:∀i k,1≤i→t.kids[i]?=some k→k.emB=true):highT t=false:=by
 unfold highT someK
 rw [List.any_eq_false]
 intro k hk
 obtain ⟨i,hi⟩:=List.getElem?_of_mem hk
 rw [List.getElem?_drop] at hi
 rw [h _ k (by omega) hi]
 simp
theorem high_w (t:T) (A:Option Addr) (cap:Nat) (S:Nat→Prop) (w:World) (hm:t.kids.length≤maxLen) (hcap:t.kids.length≤cap) (hk:NK w S A t.kids):Calls Tryz.prog 142 #[ndV A t.kids.length cap t.val t.marks] w (RetB (highT t) w):=by
 unfold maxLen at hm
 have HB:=H_ ((Below.refl w.heap.size w).alloc (Nat.le_refl _) (.cells #[.slice A t.kids.length cap,.int .i64 t.val,.int .i64 t.marks] 70))
 have HX:=H_ (heap_alloc_at w (.cells #[.slice A t.kids.length cap,.int .i64 t.val,.int .i64 t.marks] 70))
 have HK:=H_ (fun w' (hb:Below w.heap.size w w')=>hk.step hb)
 have HF:=H_ (fun i k (h:t.kids[i]?=some k)=>high_found h)
 have HN:=H_ (high_none (t:=t))
 clear hk
 generalize t.marks=m at HX HB ⊢
 generalize t.val=v at HX HB ⊢
 generalize highT t=y at HF HN ⊢
 generalize t.kids=ks at *
 obtain ⟨b1,hb1e⟩:∃b,b=w.heap.size:=⟨_,rfl⟩
 rw [←hb1e] at HX
 have HBe:=H_ hb1e
 clear hb1e
 go_enter Tryz.func142,Tryz.ntmps142
 go_upto_region 0 with fail
 go_cut [1] (fun s1 wx=>s1 = .pointer (some ⟨b1,0,none⟩)∧wx.heap[b1]?=some (.cells #[.slice A ks.length cap,.int .i64 v,.int .i64 m] 70 (0,0))∧Below w.heap.size w wx)
 case first=>
  go_wp2
  go_meet
  case rel=>exact ⟨by rw [HBe.out],HX.out,HB.out⟩
 case rest=>
  clear HX HB
  obtain ⟨rfl,hX,hW⟩:=hcut
  have HX:=H_ hX
  have HW:=H_ hW
  clear hX hW
  go_wp2
  go_loopw [3] (fun s3 wx=>∃i:Nat,1≤i∧(i≤ks.length∨i=1)∧s3 = .int .i64 i∧(∀j k,1≤j→j<i→ks[j]?=some k→k.emB=true)∧wx.heap[b1]?=some (.cells #[.slice A ks.length cap,.int .i64 v,.int .i64 m] 70 (0,0))∧Below w.heap.size w wx) (fun s3 _=>ks.length - (intOf s3).toNat)
  case atStart=>exact ⟨1,by omega,.inr rfl,rfl,fun j k h1 h2=>by omega,HX.out,HW.out⟩
  case round=>
   clear HX HW
   obtain ⟨i,hi1,hi2,rfl,hall,hX,hW⟩:=hrel
   have HX:=H_ hX
   have HW:=H_ hW
   have HA:=H_ hall
   clear hX hW hall
   obtain ⟨x0,x1,x2⟩:=cs3 HX.out
   by_cases hlt:i<ks.length
   ·have hNK:=HK.out _ HW.out
    obtain ⟨b,o,k,A',cap',rfl,_,hbl,hi,hNC,hkm,hkc,hkk⟩:=hNK.at_ hlt
    obtain ⟨c0,c1,c2⟩:=hNC
    have HI:=H_ hi
    have emk:=fun w=>empty_w A' k.kids.length cap' k.val k.marks w
    rw [show emI k.kids.length k.val k.marks=k.emB from rfl] at emk
    have i0:(0:Int)≤(i:Int):=by omega
    have i1:(i:Int)<(ks.length:Int):=by omega
    have i2:(i:Int)<(cap:Int):=by omega
    have i3:(i:Int)≤(cap:Int):=by omega
    generalize k.kids.length=kn at emk c0 hkm hkc
    generalize k.marks=km at emk c2
    generalize k.val=kv at emk c1
    clear hNK hi hkk
    cases hek:k.emB with
    | false=>
     have HR:=H_ (HF.out i k HI.out hi1 hek)
     rw [hek] at emk
     clear hek
     go_wp2_with (go_at_call 145;(with_reducible refine CM (emk _) ?_);rintro e w1 ⟨rfl,hb1⟩)
     go_ret
     exact ⟨ret_bool HR.out.symm,bl_step HW.out hb1⟩
    | true=>
     have HEK:=H_ hek
     rw [hek] at emk
     clear hek
     go_wp2_with (go_at_call 145;(with_reducible refine CM (emk _) ?_);rintro e w1 ⟨rfl,hb1⟩)
     go_roundw
     case rel=>
      refine ⟨i+1,by omega,.inl (by omega),by go_num,fun j x h1 h2 h3=>?_,bk_step HX.out hb1,bl_step HW.out hb1⟩
      by_cases hj:j=i
      ·subst hj
       have:=HI.out
       rw [this] at h3
       injection h3 with h3
       rw [←h3];exact HEK.out
      ·exact HA.out j x h1 (by omega) h3
     case measure=>simp [intOf];omega
   ·have HR:=H_ (HN.out fun j k h1 h2=>HA.out j k h1 (by have:=(g_l h2);omega) h2)
    have i1:¬(i:Int)<(ks.length:Int):=by omega
    go_wp2
    go_ret
    exact ⟨ret_bool HR.out.symm,HW.out⟩
end
section
structure More where
 r:Array Obj
 d:Nat
instance : Inhabited More :=⟨⟨#[],0⟩⟩
def ext (W:World) (z:More):World:={W with heap:=W.heap ++ z.r,drawn:=z.d}
theorem ext_block (W:World) (z:More) (b:Nat) (h:b<W.heap.size):(ext W z).heap[b]?=W.heap[b]?:=by simp [ext,Array.getElem?_append,h]
theorem ext_cell (W:World):∀z b o,b<W.heap.size→(ext W z).cell? ⟨b,o,none⟩=W.cell? ⟨b,o,none⟩:=by
 intro z b o h
 simp [World.cell?,ext_block W z b h]
theorem ext_of_below {W w':World} (h:Below W.heap.size W w'):∃z,w'=ext W z:=by
 refine ⟨⟨w'.heap.extract W.heap.size w'.heap.size,w'.drawn⟩,?_⟩
 have e:w'.heap=W.heap ++ w'.heap.extract W.heap.size w'.heap.size:=by
  apply Array.ext_getElem?
  intro i
  by_cases hi:i<W.heap.size
  ·rw [h.block i hi,Array.getElem?_append,if_pos hi]
  ·rw [Array.getElem?_append,if_neg hi,Array.getElem?_extract]
   by_cases hj:i<w'.heap.size
   ·rw [if_pos (by omega),show W.heap.size+(i - W.heap.size)=i from by omega]
   ·rw [if_neg (by omega),Array.getElem?_eq_none (by omega)]
 unfold ext
 rw [←e,←h.os,←h.tape,←h.output]
theorem below_ext (W:World) (z:More):Below W.heap.size W (ext W z):=
 ⟨rfl,rfl,rfl,by simp [ext],fun k hk=>ext_block W z k hk⟩
theorem ext_call {P:Program} {f:FuncId} {args:Array Value} {W:World} {z:More} {v:Value}
  (h:Calls P f args (ext W z) fun e w'=>e = .returned v∧Below (ext W z).heap.size (ext W z) w') :
  Calls P f args (ext W z) fun e w''=>e = .returned v∧∃z',w''=ext W z':=
 h.mono fun _ _ ⟨he,hb⟩=>⟨he,ext_of_below (bl_step (below_ext W z) hb)⟩
theorem ext_same {P:Program} {f:FuncId} {args:Array Value} {W:World} {z:More} {v:Value}
  (h:Calls P f args (ext W z) fun e w'=>e = .returned v∧ext W z=w') :
  Calls P f args (ext W z) fun e w''=>e = .returned v∧∃z',w''=ext W z':=
 h.mono fun _ _ ⟨he,hb⟩=>⟨he,z,hb.symm⟩
theorem ext_start (W:World):∃z,{W with drawn:=W.drawn+1}=ext W z:=⟨⟨#[],W.drawn+1⟩,by simp [ext]⟩
theorem wp_region_ext {P:Program} {id:Nat} {Q:Exit→Act→World→Prop} {a:Act} {W:World} {l:List Oper} (hm:P.follows .mixedOrders=true) (hB:Region.lexB .any l.toArray=true)
  (h:wpQuiet P l.toArray (fun w'=>∃z,w'=ext W z) (fun a'=>∀w',(∃z,w'=ext W z)→Q .normal a' w') l a):(Code.region id l.toArray true).wp P Q a W:=
 wp_region_quiet (C:=fun w'=>∃z,w'=ext W z) hm hB (ext_start W) (by simpa using h)
end
section
theorem valid_w (hI:Int) (t:T) (A:Option Addr) (cap:Nat) (S:Nat→Prop) (w:World) (hm:t.kids.length≤maxLen) (hcap:t.kids.length≤cap) (hk:NK w S A t.kids) :
  Calls Tryz.prog 102 #[trV hI A t.kids.length cap t.val t.marks] w (RetB (validT hI t) w):=by
 have HA:=H_ ((Below.refl w.heap.size w).alloc (Nat.le_refl _) (.cells #[.int .i64 hI,.slice A t.kids.length cap,.int .i64 t.val,.int .i64 t.marks] 72))
 by_cases h0:0≤hI
 ·by_cases h4:hI≤4
  ·obtain ⟨h,rfl⟩:=Int.eq_ofNat_of_zero_le h0
   have hr:=fun w' (hb:Below w.heap.size w w')=>right_w h t A cap S w' (by omega) hcap (hk.step hb)
   have hhi:=fun w' (hb:Below w.heap.size w w')=>high_w t A cap S w' hm hcap (hk.step hb)
   have HV:=H_ (show validT h t=(rightT h t&&(decide ((h:Int)=0)||highT t)) by unfold validT;rw [decide_eq_true (show 0≤(h:Int)∧(h:Int)≤4 by omega),Int.toNat_natCast];rfl)
   cases hrt:rightT h t with
   | false=>
    rw [hrt] at HV hr
    clear hrt
    go_enter Tryz.func102,Tryz.ntmps102
    go_wp2_with (first | (go_at_call 141;(with_reducible refine CM (hr _ (B_.alloc (Nat.le_refl _) _)) ?_);rintro e w1 ⟨rfl,hb1⟩;have HX1:=H_ (bk_step (heap_alloc_at w _) hb1);obtain ⟨x0,x1,x2,x3⟩:=cs4 HX1.out;have HB1:=H_ (bl_step (bl_alloc (Below.refl w.heap.size w) _) hb1);clear hb1) | (go_at_call 142;(with_reducible refine CM (hhi _ HB1.out) ?_);rintro e w2 ⟨rfl,hb2⟩))
    go_ret
    exact ⟨ret_bool (by rw [HV.out];rfl),HB1.out⟩
   | true=>
    rw [hrt] at HV hr
    clear hrt
    rcases h with _ | h
    ·go_enter Tryz.func102,Tryz.ntmps102
     go_wp2_with (first | (go_at_call 141;(with_reducible refine CM (hr _ (B_.alloc (Nat.le_refl _) _)) ?_);rintro e w1 ⟨rfl,hb1⟩;have HX1:=H_ (bk_step (heap_alloc_at w _) hb1);obtain ⟨x0,x1,x2,x3⟩:=cs4 HX1.out;have HB1:=H_ (bl_step (bl_alloc (Below.refl w.heap.size w) _) hb1);clear hb1) | (go_at_call 142;(with_reducible refine CM (hhi _ HB1.out) ?_);rintro e w2 ⟨rfl,hb2⟩))
     go_ret
     exact ⟨ret_bool (by rw [HV.out];simp),HB1.out⟩
    ·rw [show ((h+1:Nat):Int)=(h:Int)+1 by omega] at hr HV ⊢
     have hz:((h:Int)+1 == 0)=false:=beq_eq_false_iff_ne.2 (by omega)
     have HZ:=H_ (show decide ((h:Int)+1=0)=false from dF (by omega))
     go_enter Tryz.func102,Tryz.ntmps102
     go_wp2_with (first | (go_at_call 141;(with_reducible refine CM (hr _ (B_.alloc (Nat.le_refl _) _)) ?_);rintro e w1 ⟨rfl,hb1⟩;have HX1:=H_ (bk_step (heap_alloc_at w _) hb1);obtain ⟨x0,x1,x2,x3⟩:=cs4 HX1.out;have HB1:=H_ (bl_step (bl_alloc (Below.refl w.heap.size w) _) hb1);clear hb1) | (go_at_call 142;(with_reducible refine CM (hhi _ HB1.out) ?_);rintro e w2 ⟨rfl,hb2⟩))
     go_ret
     exact ⟨ret_bool (by rw [HV.out,HZ.out];rfl),bl_step HB1.out hb2⟩
  ·have HV:=H_ (show validT hI t=false by unfold validT;rw [dF (by omega)];rfl)
   go_enter Tryz.func102,Tryz.ntmps102
   go_wp2
   go_ret
   exact ⟨ret_bool HV.out.symm,HA.out⟩
 ·have HV:=H_ (show validT hI t=false by unfold validT;rw [dF (by omega)];rfl)
  go_enter Tryz.func102,Tryz.ntmps102
  go_wp2
  go_ret
  exact ⟨ret_bool HV.out.symm,HA.out⟩
theorem hf_le {i h:Nat} (hi:i<256) (hh:h≤4):hf i≤h↔i<4 ^ h:=by
 unfold hf
 match h,hh with
 | 0,_=>(repeat' split) <;> omega
 | 1,_=>(repeat' split) <;> omega
 | 2,_=>(repeat' split) <;> omega
 | 3,_=>(repeat' split) <;> omega
 | 4,_=>(repeat' split) <;> omega
 | h+5,hh=>omega
def bas (i h:Nat):Nat:=i / 4 ^ h*4 ^ h
theorem bas_at (i h:Nat):bas i h+i % 4 ^ h=i:=by unfold bas;rw [Nat.mul_comm];exact Nat.div_add_mod i (4 ^ h)
theorem bas_succ (i h:Nat):bas i (h+1)+i / 4 ^ h % 4*4 ^ h=bas i h:=by
 unfold bas
 rw [Nat.pow_succ,←Nat.div_div_eq_div_mul]
 have:=Nat.div_add_mod (i / 4 ^ h) 4
 generalize i / 4 ^ h=q at this ⊢
 rw [show q / 4*(4 ^ h*4)=q / 4*4*4 ^ h by rw [Nat.mul_assoc,Nat.mul_comm (4 ^ h) 4],←Nat.add_mul]
 congr 1
 omega
theorem bas_zero (i:Nat):bas i 0=i:=by simp [bas]
theorem bas_top {i h:Nat} (hi:i<4 ^ h):bas i h=0:=by unfold bas;rw [Nat.div_eq_of_lt hi,Nat.zero_mul]
def subC (c:Cn) (i h:Nat):T:=cano h (sh c (bas i h))
theorem subC_zero (c:Cn) (i:Nat):subC c i 0 = .mk [] (c i).1 (c i).2:=by
 unfold subC
 rw [bas_zero]
 simp [cano,sh]
theorem subC_kid {c:Cn} {i h:Nat} (he:(subC c i (h+1)).emB=false):(subC c i (h+1)).kids.length=4∧(subC c i (h+1)).kids[i / 4 ^ h % 4]?=some (subC c i h):=by
 unfold subC at he ⊢
 rw [emB_cano] at he
 rw [cano_succ,he,if_neg (by simp)]
 refine ⟨kidsC_len _ _,?_⟩
 show (kidsC h _)[_]?=_
 rw [kidsC_at (Nat.mod_lt _ (by omega)),sh_sh,bas_succ]
theorem subC_em {c:Cn} {i h:Nat} (he:(subC c i h).emB=true):c i=(0,0)∧subC c i h = .nil:=by
 unfold subC at he ⊢
 have hn:=he
 rw [emB_cano] at hn
 refine ⟨?_,cano_none hn⟩
 have:=noneB_true.1 hn (i % 4 ^ h) (Nat.mod_lt _ (Nat.pow_pos (by omega)))
 simp only [sh] at this
 rw [bas_at] at this
 exact this
theorem subC_top {c:Cn} {i h:Nat} (hi:i<4 ^ h):subC c i h=cano h c:=by unfold subC;rw [bas_top hi,sh_zero]
theorem path_at {w:World} {b i h:Nat} (hi:i<256) (hb:w.heap[b]?=some (.cells #[.int .i64 ((i / 4 / 4 / 4 % 4:Nat):Int),.int .i64 ((i / 4 / 4 % 4:Nat):Int),.int .i64 ((i / 4 % 4:Nat):Int),.int .i64 ((i % 4:Nat):Int)] 199 (0,0))) (h4:h<4) :
  w.cell? ⟨b,4 - (h+1),none⟩=some (.int .i64 ((i / 4 ^ h % 4:Nat):Int)):=by
 rw [cells_at hb]
 match h,h4 with
 | 0,_=>simp
 | 1,_=>simp
 | 2,_=>simp [Nat.div_div_eq_div_mul]
 | 3,_=>simp [Nat.div_div_eq_div_mul]
theorem node_size:(Tryz.prog.info? 70).map (·.size)=some 3:=by kernel_rfl
theorem node_res {fn:Func} {p:Tmp} (h:fn.results=#[.cell p 70]) (tmps:Array Value) (w:World) (g:Nat) (t:TypeId) (a b c:Value) (fr:Nat × Nat)
  (hp:tmps.getD p undef = .pointer (some ⟨g,0,none⟩)) (hg:w.heap[g]?=some (.cells #[a,b,c] t fr)):(results fn tmps).run Tryz.prog w = .ok (.agg #[a,b,c]) w:=
 results_cell_row h tmps w g t _ fr _ hp hg Tryz.underlying70 rfl node_size
theorem bl_setRow {B g:Nat} {w0 w:World} (hb:Below B w0 w) (hBg:B≤g) (cs:Array Value):Below B w0 (w.setRow g cs):=
 hb.trans ⟨rfl,rfl,rfl,by simp [World.setRow],fun k hk=>setRow_other w g k cs (by omega)⟩
theorem node_one (A:Option Addr) (n cap:Nat) (v m:Int):(#[Value.slice A n cap,.int .i64 v,.int .i64 m]:Array Value).all (·.oneCell')=true:=by simp [Value.oneCell']
theorem find_w (h:Nat) (c:Cn) (A:Option Addr) (cap:Nat) (S:Nat→Prop) (i:Nat) (w:World) (hi:i<256) (ht:TreeOk h c) (hcap:(cano h c).kids.length≤cap) (hk:NK w S A (cano h c).kids) :
  Calls Tryz.prog 104 #[trV h A (cano h c).kids.length cap (cano h c).val (cano h c).marks,.int .i64 i] w fun e w'=>∃A' cap',e = .returned (ndV A' 0 cap' (c i).1 (c i).2)∧Below w.heap.size w w':=by
 have h4:=ht.1
 have hr:=fun w=>route_w i w hi
 have hh:=fun w=>height_w i w hi
 have HLE:=H_ (hf_le hi h4)
 have HC0:=H_ (fun (hle:¬hf i≤h)=>ht.2.1 i (by have:=(hf_le hi h4).2;omega))
 have Hpath:=H_ (fun w b h hb h4=>path_at (w:=w) (b:=b) (h:=h) hi hb h4)
 have HST:=H_ (fun w' (hb:Below w.heap.size w w')=>hk.step hb)
 obtain ⟨n,hn⟩:∃n,(cano h c).kids.length=n:=⟨_,rfl⟩
 obtain ⟨v,hv⟩:∃v,(cano h c).val=v:=⟨_,rfl⟩
 obtain ⟨m,hm⟩:∃m,(cano h c).marks=m:=⟨_,rfl⟩
 rw [hn] at hcap
 rw [hn,hv,hm]
 have Hn:=H_ hn
 have Hv:=H_ hv
 have Hm:=H_ hm
 clear hn hv hm hk ht
 have HB:=H_ (((Below.refl w.heap.size w).alloc (Nat.le_refl _) (.cells #[.int .i64 h,.slice A n cap,.int .i64 v,.int .i64 m] 72)).alloc (by simp) (.cells #[.slice none 0 0,.int .i64 0,.int .i64 0] 70))
 have HX:=H_ (bk_alloc (heap_alloc_at w (.cells #[.int .i64 h,.slice A n cap,.int .i64 v,.int .i64 m] 72)) (.cells #[.slice none 0 0,.int .i64 0,.int .i64 0] 70))
 have HY:=H_ (heap_at_new (w.alloc (.cells #[.int .i64 h,.slice A n cap,.int .i64 v,.int .i64 m] 72)) (.cells #[.slice none 0 0,.int .i64 0,.int .i64 0] 70) (w.heap.size+1) (by simp))
 obtain ⟨b2,hb2⟩:∃b,b=w.heap.size:=⟨_,rfl⟩
 rw [←hb2] at HX HY
 have HBe:=H_ hb2
 clear hb2
 unfold pathV at hr hh
 go_enter Tryz.func104,Tryz.ntmps104
 go_upto_region 0 with fail
 go_cut [2,4] (fun s2 s4 wx=>s2 = .pointer (some ⟨b2,0,none⟩)∧s4 = .pointer (some ⟨b2+1,0,none⟩)∧wx.heap[b2]?=some (.cells #[.int .i64 h,.slice A n cap,.int .i64 v,.int .i64 m] 72 (0,0))∧wx.heap[b2+1]?=some (.cells #[.slice none 0 0,.int .i64 0,.int .i64 0] 70 (0,0))∧Below w.heap.size w wx)
 case first=>
  go_wp2
  go_meet
  case rel=>exact ⟨by rw [HBe.out],by rw [HBe.out],HX.out,HY.out,HB.out⟩
 case rest=>
  obtain ⟨rfl,rfl,hX,hY,hW⟩:=hcut
  clear HX HY HB
  have HX:=H_ hX
  have HY:=H_ hY
  have HW:=H_ hW
  clear hX hY hW
  go_upto_region 1 with fail
  go_cut [5] (fun s5 wx=>∃b5,s5 = .pointer (some ⟨b5,0,none⟩)∧wx.heap[b5]?=some (.cells #[.int .i64 ((i / 4 / 4 / 4 % 4:Nat):Int),.int .i64 ((i / 4 / 4 % 4:Nat):Int),.int .i64 ((i / 4 % 4:Nat):Int),.int .i64 ((i % 4:Nat):Int)] 199 (0,0))∧wx.heap[b2]?=some (.cells #[.int .i64 h,.slice A n cap,.int .i64 v,.int .i64 m] 72 (0,0))∧wx.heap[b2+1]?=some (.cells #[.slice none 0 0,.int .i64 0,.int .i64 0] 70 (0,0))∧Below w.heap.size w wx)
  case first=>
   go_wp2_with (go_at_call 143;(with_reducible refine CM (hr _) ?_);rintro e w1 ⟨rfl,hb1⟩)
   go_meet
   case rel=>exact ⟨_,rfl,heap_alloc_new _ _,bk_alloc (bk_step HX.out hb1) _,bk_alloc (bk_step HY.out hb1) _,bl_alloc (bl_step HW.out hb1) _⟩
  case rest=>
   clear HX HY HW hr
   obtain ⟨b5,rfl,hP,hX,hY,hW⟩:=hcut
   obtain ⟨W,hWe⟩:∃W:World,W=wc:=⟨_,rfl⟩
   subst hWe
   have HX:=H_ hX
   have HY:=H_ hY
   have HW:=H_ hW
   have HP:=H_ hP
   have lX:=bk_lt hX
   have lP:=bk_lt hP
   have x0:=cells_at hX 0
   have p0:=cells_at hP 0
   have p1:=cells_at hP 1
   have p2:=cells_at hP 2
   have p3:=cells_at hP 3
   simp only [List.getElem?_toArray,List.getElem?_cons_zero,List.getElem?_cons_succ] at x0 p0 p1 p2 p3
   have xe:=ext_cell W
   clear hX hY hW hP
   go_upto_region 2 with fail
   go_cut [14] (fun s14 wx=>s14 = .bool (decide (h<hf i))∧∃z,wx=ext W z)
   case first=>
    refine wp_region_ext (by kernel_rfl) (by kernel_rfl) ?_
    (refine wpQuiet_step (fun K hK=>?_);go_simp;(with_reducible refine hK _ ?_);clear hK K)
    (refine wpQuiet_step (fun K hK=>?_);go_simp;apply Exists.intro;refine ⟨fun _=>?_,hK _ ?_⟩;(exact ext_call (hh _));clear hK K)
    (refine wpQuiet_step (fun K hK=>?_);go_simp;(with_reducible refine hK _ ?_);clear hK K)
    (refine wpQuiet_step (fun K hK=>?_);go_simp;(with_reducible refine hK _ ?_);clear hK K)
    (refine wpQuiet_step (fun K hK=>?_);go_simp;(with_reducible refine hK _ ?_);clear hK K)
    refine wpQuiet_nil ?_
    rintro w' ⟨z,rfl⟩
    go_wp2
    go_meet
    case rel=>exact ⟨rfl,z,rfl⟩
   case rest=>
    obtain ⟨rfl,z,rfl⟩:=hcut
    have hbz:=below_ext W z
    have HX2:=bkh HX hbz
    have HY2:=bkh HY hbz
    have HP2:=bkh HP hbz
    have HW2:=blh HW hbz
    clear HX HY HP HW x0 p0 p1 p2 p3 lX lP xe
    generalize ext W z=U at hbz HX2 HY2 HP2 HW2 ⊢
    clear hbz hh
    obtain ⟨x0,x1,x2,x3⟩:=cs4 HX2.out
    by_cases hle:hf i≤h
    ·have hd:decide (h<hf i)=false:=dF (by omega)
     have HLT:=H_ (HLE.out.1 hle)
     clear hle
     rw [hd]
     go_upto_region 4 with fail
     go_cut [6] (fun s6 wx=>∃b6,s6 = .pointer (some ⟨b6,0,none⟩)∧b2+1<b6∧b5<b6∧wx.heap[b6]?=some (.cells #[.slice A n cap,.int .i64 v,.int .i64 m] 70 (0,0))∧wx.heap[b5]?=some (.cells #[.int .i64 ((i / 4 / 4 / 4 % 4:Nat):Int),.int .i64 ((i / 4 / 4 % 4:Nat):Int),.int .i64 ((i / 4 % 4:Nat):Int),.int .i64 ((i % 4:Nat):Int)] 199 (0,0))∧wx.heap[b2]?=some (.cells #[.int .i64 h,.slice A n cap,.int .i64 v,.int .i64 m] 72 (0,0))∧wx.heap[b2+1]?=some (.cells #[.slice none 0 0,.int .i64 0,.int .i64 0] 70 (0,0))∧Below w.heap.size w wx)
     case first=>
      have lY:=bk_lt HY2.out
      have lP:=bk_lt HP2.out
      go_wp2
      go_meet
      case rel=>exact ⟨_,rfl,lY,lP,heap_alloc_new _ _,bk_alloc HP2.out _,bk_alloc HX2.out _,bk_alloc HY2.out _,bl_alloc HW2.out _⟩
     case rest=>
      clear HX2 HY2 HP2 HW2 x0 x1 x2 x3 hd
      obtain ⟨b6,rfl,l6,l5,hN,hP,hX,hY,hW⟩:=hcut
      obtain ⟨x0,x1,x2,x3⟩:=cs4 hX
      have HN:=H_ hN
      have HX:=H_ hX
      have HY:=H_ hY
      have HP:=H_ hP
      have HW:=H_ hW
      clear hN hP hX hY hW
      go_wp2
      clear x0 x1 x2 x3
      go_loopw [7] (fun s7 wx=>∃(k:Nat) (A':Option Addr) (cap':Nat),k≤h∧s7 = .int .i64 k∧wx.heap[b6]?=some (.cells #[.slice A' (subC c i k).kids.length cap',.int .i64 (subC c i k).val,.int .i64 (subC c i k).marks] 70 (0,0))∧(subC c i k).kids.length≤cap'∧NK w S A' (subC c i k).kids∧wx.heap[b5]?=some (.cells #[.int .i64 ((i / 4 / 4 / 4 % 4:Nat):Int),.int .i64 ((i / 4 / 4 % 4:Nat):Int),.int .i64 ((i / 4 % 4:Nat):Int),.int .i64 ((i % 4:Nat):Int)] 199 (0,0))∧wx.heap[b2+1]?=some (.cells #[.slice none 0 0,.int .i64 0,.int .i64 0] 70 (0,0))∧Below w.heap.size w wx) (fun s7 _=>(intOf s7).toNat)
      case atStart=>exact ⟨h,A,cap,Nat.le_refl _,rfl,by rw [subC_top HLT.out,Hn.out,Hv.out,Hm.out];exact HN.out,by rw [subC_top HLT.out,Hn.out];exact hcap,by rw [subC_top HLT.out];exact HST.out _ B_,HP.out,HY.out,HW.out⟩
      case round=>
       clear HN HX HY HP HW HC0 HLE Hn Hv Hm hcap HLT
       obtain ⟨k,A',cap',hkh,rfl,hN,hcap,hNK,hP,hY,hW⟩:=hrel
       have emk:=fun w=>empty_w A' (subC c i k).kids.length cap' (subC c i k).val (subC c i k).marks w
       rw [show emI (subC c i k).kids.length (subC c i k).val (subC c i k).marks=(subC c i k).emB from rfl] at emk
       have HN:=H_ hN
       have HY:=H_ hY
       have HP:=H_ hP
       have HW:=H_ hW
       clear hN hP hY hW
       have lW:=HW.out.size
       rcases k with _ | k
       ·have e1:(subC c i 0).kids.length=0:=by rw [subC_zero];rfl
        have e2:(subC c i 0).val=(c i).1:=by rw [subC_zero];rfl
        have e3:(subC c i 0).marks=(c i).2:=by rw [subC_zero];rfl
        rw [e1,e2,e3] at HN
        clear e1 e2 e3 emk hNK hcap
        obtain ⟨x0,x1,x2⟩:=cs3 HN.out
        go_wp2_with (refine wpList_store_rowTo rfl 70 (.tmp 4) (.tmp 37) rfl rfl (b2+1) #[.slice A' 0 cap',.int .i64 (c i).1,.int .i64 (c i).2] rfl rfl 70 _ (HY.out) node_size rfl (node_one _ _ _ _ _) ?_)
        show bodyPost Tryz.prog Tryz.f104 _ _ _ _
        refine bodyPost_ret (node_res rfl _ _ (b2+1) _ _ _ _ _ rfl (setRow_heap _ _ _ _ _ _ HY.out)) rfl ⟨A',cap',rfl,?_⟩
        exact bl_setRow HW.out (by rw [HBe.out];omega) _
       ·have hz:((k:Int)+1 == 0)=false:=beq_eq_false_iff_ne.2 (by omega)
        have hz2:(0:Int)<(k:Int)+1:=by omega
        cases hem:(subC c i (k+1)).emB with
        | true=>
         have ⟨hc,hnil⟩:=subC_em hem
         rw [hem] at emk
         rw [hnil] at HN emk
         have HC:=H_ hc
         clear hnil hcap hNK hc hem
         have e1:T.nil.kids.length=0:=rfl
         have e2:T.nil.val=0:=rfl
         have e3:T.nil.marks=0:=rfl
         rw [e1,e2,e3] at HN emk
         clear e1 e2 e3
         obtain ⟨x0,x1,x2⟩:=cs3 HN.out
         go_wp2_with (first
          | (go_at_call 145;(with_reducible refine CM (emk _) ?_);rintro e w1 ⟨rfl,hb1⟩;have HN1:=bkh HN hb1;have HY1:=bkh HY hb1;have HW1:=blh HW hb1;obtain ⟨z0,z1,z2⟩:=cs3 HN1.out)
          | (refine wpList_store_rowTo rfl 70 (.tmp 4) (.tmp 37) rfl rfl (b2+1) #[.slice A' 0 cap',.int .i64 0,.int .i64 0] rfl rfl 70 _ (HY1.out) node_size rfl (node_one _ _ _ _ _) ?_))
         show bodyPost Tryz.prog Tryz.f104 _ _ _ _
         refine bodyPost_ret (node_res rfl _ _ (b2+1) _ _ _ _ _ rfl (setRow_heap _ _ _ _ _ _ HY1.out)) rfl ⟨A',cap',by rw [HC.out],?_⟩
         exact bl_setRow HW1.out (by rw [HBe.out];omega) _
        | false=>
         have ⟨hl4,hkid⟩:=subC_kid hem
         rw [hem] at emk
         rw [hl4] at HN emk hcap
         have hd4:i / 4 ^ k % 4<4:=Nat.mod_lt _ (by omega)
         obtain ⟨b,o,kk,A2,cap2,rfl,_,hbl,hkk,hNC,hkm,hkc,hNK2⟩:=hNK.at_ (show i / 4 ^ k % 4<_ by rw [hl4];exact hd4)
         rw [hkid] at hkk
         injection hkk with hkk
         subst hkk
         have HNC:=H_ hNC
         have HNK2:=H_ hNK2
         have HPA:=H_ (fun w' hb=>Hpath.out w' b5 k hb (by omega))
         have q1:IntKind.i64.wrap (4 - ((k:Int)+1))=((4 - (k+1):Nat):Int):=by rw [w64 (by omega)];omega
         have q2:((4 - (k+1):Nat):Int)<4:=by omega
         have q3:(0:Int)≤((4 - (k+1):Nat):Int):=by omega
         have q4:=w64 (x:=(k:Int)) (by omega)
         have HKL:=H_ hkc
         clear hkid hem hNK hNC hNK2 hkm hkc hl4
         generalize 4 - (k+1)=j at HPA q1 q2 q3
         obtain ⟨d,hd⟩:∃d,i / 4 ^ k % 4=d:=⟨_,rfl⟩
         rw [hd] at HPA hd4 HNC
         have d1:(d:Int)<4:=by omega
         have d2:(d:Int)<(cap':Int):=by omega
         have d3:(0:Int)≤(d:Int):=by omega
         clear hd
         obtain ⟨x0,x1,x2⟩:=cs3 HN.out
         go_upto_region 8 with (go_at_call 145;(with_reducible refine CM (emk _) ?_);rintro e w1 ⟨rfl,hb1⟩;have HN1:=bkh HN hb1;have HY1:=bkh HY hb1;have HP1:=bkh HP hb1;have HW1:=blh HW hb1)
         clear HN HY HP HW x0 x1 x2 hb1 emk
         refine wp_region_still_tail 8 (by kernel_rfl) (by kernel_rfl) ?_
         simp only [List.take_succ_cons,List.take_zero,List.drop_succ_cons,List.drop_zero]
         change wpStill _ _ (World.drew _) (fun a'=>wpList _ _ _ _ a' (World.drew _)) _ _
         generalize hG:World.drew _=W2
         have hbd:=(Below.refl w1.heap.size w1).drew
         rw [hG] at hbd
         have HN2:=bkh HN1 hbd
         have HY2:=bkh HY1 hbd
         have HP2:=bkh HP1 hbd
         have HW2:=blh HW1 hbd
         clear HN1 HY1 HP1 HW1 hG hbd
         obtain ⟨x0,x1,x2⟩:=cs3 HN2.out
         have pa:=HPA.out W2 HP2.out
         obtain ⟨c0,c1,c2⟩:=HNC.out
         have c0:=(HW2.out.cell (p:=⟨b,_,none⟩) hbl).trans c0
         have c1:=(HW2.out.cell (p:=⟨b,_,none⟩) hbl).trans c1
         have c2:=(HW2.out.cell (p:=⟨b,_,none⟩) hbl).trans c2
         iterate 8 (refine wpStill_step (fun K hK=>?_);go_simp;(with_reducible refine hK _ ?_);clear hK K)
         refine wpStill_nil ?_
         go_wp2_with (refine wpList_store_rowTo rfl 70 (.tmp 6) (.tmp 36) rfl rfl (b6) #[.slice A2 (subC c i k).kids.length cap2,.int .i64 (subC c i k).val,.int .i64 (subC c i k).marks] rfl rfl 70 _ (HN2.out) node_size rfl (node_one _ _ _ _ _) ?_)
         go_roundw
         case rel=>exact ⟨k,A2,cap2,by omega,by go_num,setRow_heap _ _ _ _ _ _ HN2.out,HKL.out,HNK2.out,(setRow_other _ _ _ _ (by omega)).trans HP2.out,(setRow_other _ _ _ _ (by omega)).trans HY2.out,bl_setRow HW2.out (by have:=HBe.out;omega) _⟩
         case measure=>simp [intOf]
    ·have hd:decide (h<hf i)=true:=dT (by omega)
     have HC:=H_ (HC0.out hle)
     clear hle
     rw [hd]
     go_wp2_with (refine wpList_store_rowTo rfl 70 (.tmp 4) (.tmp 15) rfl rfl (b2+1) #[.slice none 0 0,.int .i64 0,.int .i64 0] rfl rfl 70 _ (HY2.out) node_size rfl (node_one _ _ _ _ _) ?_)
     show bodyPost Tryz.prog Tryz.f104 _ _ _ _
     refine bodyPost_ret (node_res rfl _ _ (b2+1) _ _ _ _ _ rfl (setRow_heap _ _ _ _ _ _ HY2.out)) rfl ⟨none,0,by rw [HC.out],?_⟩
     exact bl_setRow HW2.out (by rw [HBe.out];omega) _
end
end Go.Proofs.YthhekebemmckcaaGreatDoor
