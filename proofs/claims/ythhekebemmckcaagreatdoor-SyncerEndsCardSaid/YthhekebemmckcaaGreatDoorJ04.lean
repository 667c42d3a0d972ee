/-
  Lemmas and contracts for the laws of synchronisations (layer 43), part 4; several texts joined by a program.
-/
import Derived.Test.YthhekebemmckcaaGreatDoorJ01
import Derived.Test.YthhekebemmckcaaGreatDoorJ03
namespace Go.Proofs.YthhekebemmckcaaGreatDoor
set_option linter.unusedVariables false
set_option linter.unusedSimpArgs false
set_option maxRecDepth 100000
set_option maxHeartbeats 16000000
open Go.RowKit
section
abbrev orI (a b:Int):Int:=bits .or .i64 a b
def orK (ks:List T):Int:=ks.foldl (fun a k=>orI a k.marks) 0
def someK (ks:List T):Bool:=ks.any (fun k=>!k.emB)
theorem orK_take {ks:List T} {i:Nat} {k:T} (h:ks[i]?=some k):orK (ks.take (i+1))=orI (orK (ks.take i)) k.marks:=by
 unfold orK
 rw [List.take_add_one,h,Option.toList_some,List.foldl_append]
 rfl
theorem someK_take {ks:List T} {i:Nat} {k:T} (h:ks[i]?=some k):someK (ks.take (i+1))=(someK (ks.take i)||!k.emB):=by
 unfold someK
 rw [List.take_add_one,h,Option.toList_some,List.any_append]
 simp
def rightT:Nat→T→Bool
 | 0,t=>t.emB||t.lfB
 | h+1,t=>t.emB||(decide (t.val=0∧t.kids.length=4)&&t.kids.all (rightT h)&&(someK t.kids&&decide (t.marks=orK t.kids)))
theorem rightT_em {t:T} (h:t.emB=true) (n:Nat):rightT n t=true:=by cases n <;> simp [rightT,h]
theorem rightT_zero {t:T} (h:t.emB=false):rightT 0 t=t.lfB:=by simp [rightT,h]
theorem rightT_succ {t:T} (h:t.emB=false) (n:Nat):rightT (n+1) t=(decide (t.val=0∧t.kids.length=4)&&t.kids.all (rightT n)&&(someK t.kids&&decide (t.marks=orK t.kids))):=by simp [rightT,h]
theorem right_val {t:T} {h:Nat} (he:t.emB=false) (hv:t.val≠0∨t.kids.length≠4):rightT (h+1) t=false:=by
 rw [rightT_succ he,dF (by omega)]
 simp
theorem right_kid {t k:T} {h i:Nat} (he:t.emB=false) (hi:t.kids[i]?=some k) (hk:rightT h k=false):rightT (h+1) t=false:=by
 rw [rightT_succ he]
 have:t.kids.all (rightT h)=false:=by
  rw [List.all_eq_false]
  exact ⟨k,List.mem_of_getElem? hi,by simp [hk]⟩
 rw [this]
 simp
theorem right_end {t:T} {h:Nat} (he:t.emB=false) (hv:t.val=0) (hl:t.kids.length=4) (ha:t.kids.all (rightT h)=true):rightT (h+1) t=(someK t.kids&&decide (t.marks=orK t.kids)):=by
 rw [rightT_succ he,decide_eq_true ⟨hv,hl⟩,ha]
 simp
theorem all_take {p:T→Bool} {ks:List T} {i:Nat} {k:T} (h:ks[i]?=some k) (ha:(ks.take i).all p=true) (hk:p k=true):(ks.take (i+1)).all p=true:=by
 rw [List.take_add_one,h,Option.toList_some,List.all_append,ha]
 simp [hk]
theorem right_w:∀(h:Nat) (t:T) (A:Option Addr) (cap:Nat) (S:Nat→Prop) (w:World),h≤100→t.kids.length≤cap→NK w S A t.kids→Calls Tryz.prog 141 #[ndV A t.kids.length cap t.val t.marks,.int .i64 h] w (RetB (rightT h t) w):=by
 intro h
 induction h with
 | zero=>
  intro t A cap S w hh hcap hk
  have HB:=H_ ((Below.refl w.heap.size w).alloc (Nat.le_refl _) (.cells #[.slice A t.kids.length cap,.int .i64 t.val,.int .i64 t.marks] 70))
  have em:=fun w=>empty_w A t.kids.length cap t.val t.marks w
  rw [show emI t.kids.length t.val t.marks=t.emB from rfl] at em
  cases he:t.emB with
  | true=>
   have HR:=H_ (rightT_em he 0)
   rw [he] at em
   clear he
   go_enter Tryz.func141,Tryz.ntmps141
   go_wp2_with (go_at_call 145;(with_reducible refine CM (em _) ?_);rintro e w1 ⟨rfl,hb1⟩)
   go_ret
   exact ⟨ret_bool HR.out.symm,bl_step HB.out hb1⟩
  | false=>
   rw [he] at em
   have HR:=H_ (rightT_zero he)
   clear he
   have HX:=H_ (heap_alloc_at w (.cells #[.slice A t.kids.length cap,.int .i64 t.val,.int .i64 t.marks] 70))
   have lf:=fun w=>leaf_w A t.kids.length cap t.val t.marks w
   rw [show lfI t.kids.length t.val t.marks=t.lfB from rfl] at lf
   go_enter Tryz.func141,Tryz.ntmps141
   go_wp2_with (first
    | (go_at_call 145;(with_reducible refine CM (em _) ?_);rintro e w1 ⟨rfl,hb1⟩;have HX1:=bk_step HX.out hb1;obtain ⟨x0,x1,x2⟩:=cs3 HX1;clear HX1)
    | (go_at_call 164;(with_reducible refine CM (lf _) ?_);rintro e w2 ⟨rfl,hb2⟩))
   go_ret
   exact ⟨ret_bool HR.out.symm,bl_step (bl_step HB.out hb1) hb2⟩
 | succ h ih=>
  intro t A cap S w hh hcap hk
  have HB:=H_ ((Below.refl w.heap.size w).alloc (Nat.le_refl _) (.cells #[.slice A t.kids.length cap,.int .i64 t.val,.int .i64 t.marks] 70))
  have em:=fun w=>empty_w A t.kids.length cap t.val t.marks w
  rw [show emI t.kids.length t.val t.marks=t.emB from rfl] at em
  have hz:¬(h:Int)+1=0:=by omega
  have hz2:((h:Int)+1 == 0)=false:=beq_eq_false_iff_ne.2 hz
  have hz3:decide ((h:Int)+1=0)=false:=decide_eq_false hz
  rw [show ((h+1:Nat):Int)=(h:Int)+1 by omega]
  cases he:t.emB with
  | true=>
   have HR:=H_ (rightT_em he (h+1))
   rw [he] at em
   clear he
   go_enter Tryz.func141,Tryz.ntmps141
   go_wp2_with (go_at_call 145;(with_reducible refine CM (em _) ?_);rintro e w1 ⟨rfl,hb1⟩)
   go_ret
   exact ⟨ret_bool HR.out.symm,bl_step HB.out hb1⟩
  | false=>
   rw [he] at em
   have HE:=H_ he
   clear he
   have HX:=H_ (heap_alloc_at w (.cells #[.slice A t.kids.length cap,.int .i64 t.val,.int .i64 t.marks] 70))
   by_cases hv:t.val=0
   ·by_cases hl:t.kids.length=4
    ·have HE2:=H_ (fun ha=>right_end (h:=h) HE.out hv hl ha)
     have HL:=H_ hl
     rw [hl] at em HX HB hcap ⊢
     rw [hv] at em HX HB ⊢
     have HK:=H_ (fun w' (hb:Below w.heap.size w w')=>hk.step hb)
     have HKID:=H_ (fun i k (hi:t.kids[i]?=some k) hf=>right_kid (h:=h) HE.out hi hf)
     have HLV:=H_ (show t.kids.take 4=t.kids by rw [←hl];exact List.take_length)
     have hw:IntKind.i64.wrap ((h:Int)+1 - 1)=(h:Int):=by rw [show (h:Int)+1 - 1=h by omega];exact w64 (by omega)
     have hw2:=w64 (x:=(h:Int)) (by omega)
     clear hv hl hk
     generalize t.marks=m at em HX HB HE2 ⊢
     generalize t.kids=ks at HE2 HK HKID HLV HL
     clear HE
     obtain ⟨b1,hb1e⟩:∃b,b=w.heap.size:=⟨_,rfl⟩
     rw [←hb1e] at HX
     have HBe:=H_ hb1e
     clear hb1e
     go_enter Tryz.func141,Tryz.ntmps141
     go_upto_region 0 with fail
     go_cut [2] (fun s2 wx=>s2 = .pointer (some ⟨b1,0,none⟩)∧wx.heap[b1]?=some (.cells #[.slice A 4 cap,.int .i64 0,.int .i64 m] 70 (0,0))∧Below w.heap.size w wx)
     case first=>
      go_wp2
      go_meet
      case rel=>exact ⟨by rw [HBe.out],HX.out,HB.out⟩
     case rest=>
      clear HX HB
      obtain ⟨rfl,hX,hW⟩:=hcut
      obtain ⟨x0,x1,x2⟩:=cs3 hX
      have HX:=H_ hX
      have HW:=H_ hW
      clear hX hW
      go_upto_region 7 with (go_at_call 145;(with_reducible refine CM (em _) ?_);rintro e w1 ⟨rfl,hb1⟩;have HX1:=bkh HX hb1;have HW1:=blh HW hb1;obtain ⟨x0,x1,x2⟩:=cs3 HX1.out)
      clear HX HW em hb1 hz hz2 hz3
      go_wp2
      clear x0 x1 x2
      go_loopw [5,6,27] (fun s5 s6 s27 wx=>∃i:Nat,i≤4∧s27 = .int .i64 i∧s5 = .int .i64 (orK (ks.take i))∧s6 = .bool (someK (ks.take i))∧(ks.take i).all (rightT h)=true∧wx.heap[b1]?=some (.cells #[.slice A 4 cap,.int .i64 0,.int .i64 m] 70 (0,0))∧Below w.heap.size w wx) (fun _ _ s27 _=>4 - (intOf s27).toNat)
      case atStart=>exact ⟨0,by omega,rfl,rfl,rfl,rfl,HX1.out,HW1.out⟩
      case round=>
       clear HX1 HW1
       obtain ⟨i,hi4,rfl,rfl,rfl,hall,hX,hW⟩:=hrel
       have HX:=H_ hX
       have HW:=H_ hW
       have HA:=H_ hall
       clear hX hW hall
       by_cases hlt:i<4
       ·have hNK:=HK.out _ HW.out
        obtain ⟨b,o,k,A',cap',rfl,_,hbl,hi,hNC,hkm,hkc,hkk⟩:=hNK.at_ (show i<ks.length by rw [HL.out];exact hlt)
        obtain ⟨c0,c1,c2⟩:=hNC
        have HOR:=H_ (orK_take hi)
        have HSM:=H_ (someK_take hi)
        have HAL:=H_ (fun hk=>all_take (p:=rightT h) hi HA.out hk)
        have HKB:=H_ (HKID.out i k hi)
        have HC0:=H_ c0
        have HC1:=H_ c1
        have HC2:=H_ c2
        have hr:=fun w' (hb:Below wr.heap.size wr w')=>ih k A' cap' S w' (by omega) hkc (hkk.step hb)
        have emk:=fun w=>empty_w A' k.kids.length cap' k.val k.marks w
        rw [show emI k.kids.length k.val k.marks=k.emB from rfl] at emk
        have i0:(0:Int)≤(i:Int):=by omega
        have i1:(i:Int)<4:=by omega
        have i2:(i:Int)<(cap:Int):=by omega
        have i3:(i:Int)≤(cap:Int):=by omega
        generalize k.kids.length=kn at hr emk c0 HC0 hkm hkc
        generalize k.marks=km at hr emk c2 HC2 HOR
        generalize k.val=kv at hr emk c1 HC1
        clear hNK hi hkk HA
        cases hrk:rightT h k with
        | false=>
         have HR:=H_ (HKB.out hrk)
         rw [hrk] at hr
         clear hrk
         go_wp2_with (go_at_call 141;(with_reducible refine CM (hr _ (B_.alloc (Nat.le_refl _) _)) ?_);rintro e w1 ⟨rfl,hb1⟩;have HX2:=H_ (bk_step (bk_alloc HX.out (.cells #[.slice A' kn cap',.int .i64 kv,.int .i64 km] 70)) hb1);have HW2:=H_ (bl_step (bl_alloc HW.out (.cells #[.slice A' kn cap',.int .i64 kv,.int .i64 km] 70)) hb1);have hy:=bk_step (heap_alloc_at wr (.cells #[.slice A' kn cap',.int .i64 kv,.int .i64 km] 70)) hb1;obtain ⟨y0,y1,y2⟩:=cs3 hy;clear hy)
         go_ret
         exact ⟨ret_bool HR.out.symm,HW2.out⟩
        | true=>
         have HAK:=H_ (HAL.out hrk)
         rw [hrk] at hr
         clear hrk
         cases hsm:someK (ks.take i) with
         | true=>
          rw [hsm] at HSM
          go_wp2_with (go_at_call 141;(with_reducible refine CM (hr _ (B_.alloc (Nat.le_refl _) _)) ?_);rintro e w1 ⟨rfl,hb1⟩;have HX2:=H_ (bk_step (bk_alloc HX.out (.cells #[.slice A' kn cap',.int .i64 kv,.int .i64 km] 70)) hb1);have HW2:=H_ (bl_step (bl_alloc HW.out (.cells #[.slice A' kn cap',.int .i64 kv,.int .i64 km] 70)) hb1);have hy:=bk_step (heap_alloc_at wr (.cells #[.slice A' kn cap',.int .i64 kv,.int .i64 km] 70)) hb1;obtain ⟨y0,y1,y2⟩:=cs3 hy;clear hy)
          go_roundw
          case rel=>exact ⟨i+1,by omega,by go_num,by rw [HOR.out],by rw [HSM.out];rfl,HAK.out,HX2.out,HW2.out⟩
          case measure=>simp [intOf];omega
         | false=>
          rw [hsm] at HSM
          go_wp2_with (first
           | (go_at_call 141;(with_reducible refine CM (hr _ (B_.alloc (Nat.le_refl _) _)) ?_);rintro e w1 ⟨rfl,hb1⟩;have HX2:=H_ (bk_step (bk_alloc HX.out (.cells #[.slice A' kn cap',.int .i64 kv,.int .i64 km] 70)) hb1);have HW2:=H_ (bl_step (bl_alloc HW.out (.cells #[.slice A' kn cap',.int .i64 kv,.int .i64 km] 70)) hb1);have hy:=bk_step (heap_alloc_at wr (.cells #[.slice A' kn cap',.int .i64 kv,.int .i64 km] 70)) hb1;obtain ⟨y0,y1,y2⟩:=cs3 hy;clear hy)
           | (go_at_call 145;(with_reducible refine CM (emk _) ?_);rintro e w1 ⟨rfl,hb2⟩))
          go_roundw
          case rel=>exact ⟨i+1,by omega,by go_num,by rw [HOR.out],by rw [HSM.out];rfl,HAK.out,bk_step HX2.out hb2,bl_step HW2.out hb2⟩
          case measure=>simp [intOf];omega
       ·obtain rfl:i=4:=by omega
        have hR:=HE2.out
        have hA:=HA.out
        rw [HLV.out] at hA ⊢
        have HR:=H_ (hR hA)
        obtain ⟨x0,x1,x2⟩:=cs3 HX.out
        clear hR hA
        cases hs:someK ks with
        | true=>
         rw [hs] at HR
         by_cases hm:m=orK ks
         ·subst hm
          go_wp2
          go_ret
          exact ⟨ret_bool (by rw [HR.out];simp),HW.out⟩
         ·have hd:decide (m=orK ks)=false:=decide_eq_false hm
          go_wp2
          go_ret
          exact ⟨ret_bool (by rw [HR.out];simp [hm]),HW.out⟩
        | false=>
         rw [hs] at HR
         go_wp2
         go_ret
         exact ⟨ret_bool (by rw [HR.out];simp),HW.out⟩
    ·have HR:=H_ (right_val (h:=h) HE.out (.inr hl))
     have hd:decide ((t.kids.length:Int)=4)=false:=dF (by omega)
     have hd2:((t.kids.length:Int) == 4)=false:=by simp;omega
     have hd3:¬(t.kids.length:Int)=4:=by omega
     rw [hv] at HX HB em ⊢
     go_enter Tryz.func141,Tryz.ntmps141
     go_wp2_with (go_at_call 145;(with_reducible refine CM (em _) ?_);rintro e w1 ⟨rfl,hb1⟩;have HX1:=bk_step HX.out hb1;obtain ⟨x0,x1,x2⟩:=cs3 HX1;clear HX1)
     go_ret
     exact ⟨ret_bool HR.out.symm,bl_step HB.out hb1⟩
   ·have HR:=H_ (right_val (h:=h) HE.out (.inl hv))
    have hd:decide (t.val=0)=false:=decide_eq_false hv
    have hd2:(t.val == 0)=false:=by simpa using hv
    go_enter Tryz.func141,Tryz.ntmps141
    go_wp2_with (go_at_call 145;(with_reducible refine CM (em _) ?_);rintro e w1 ⟨rfl,hb1⟩;have HX1:=bk_step HX.out hb1;obtain ⟨x0,x1,x2⟩:=cs3 HX1;clear HX1)
    all_goals go_ret
    all_goals exact ⟨ret_bool HR.out.symm,bl_step HB.out hb1⟩
theorem subtree_w:∀(h:Nat) (t:T) (A:Option Addr) (cap:Nat) (S:Nat→Prop) (w:World),h≤100→t.kids.length≤cap→NK w S A t.kids→Calls Tryz.prog 153 #[ndV A t.kids.length cap t.val t.marks,.int .i64 h] w (RetB (rightT h t) w):=by
 intro h
 induction h with
 | zero=>
  intro t A cap S w hh hcap hk
  have HB:=H_ ((Below.refl w.heap.size w).alloc (Nat.le_refl _) (.cells #[.slice A t.kids.length cap,.int .i64 t.val,.int .i64 t.marks] 70))
  have em:=fun w=>rEmpty_w A t.kids.length cap t.val t.marks w
  rw [show emI t.kids.length t.val t.marks=t.emB from rfl] at em
  cases he:t.emB with
  | true=>
   have HR:=H_ (rightT_em he 0)
   rw [he] at em
   clear he
   go_enter Tryz.func153,Tryz.ntmps153
   go_wp2_with (go_at_call 158;(with_reducible refine CM (em _) ?_);rintro e w1 ⟨rfl,hb1⟩)
   go_ret
   exact ⟨ret_bool HR.out.symm,bl_step HB.out hb1⟩
  | false=>
   rw [he] at em
   have HR:=H_ (rightT_zero he)
   clear he
   have HX:=H_ (heap_alloc_at w (.cells #[.slice A t.kids.length cap,.int .i64 t.val,.int .i64 t.marks] 70))
   unfold T.lfB at HR
   generalize t.kids.length=n at *
   generalize t.val=v at *
   generalize t.marks=m at *
   rcases n with _ | n
   ·by_cases h1:v=0
    ·have HL:=H_ (show lfI 0 v m=false from dF (by omega))
     subst h1
     go_enter Tryz.func153,Tryz.ntmps153
     go_wp2_with (go_at_call 158;(with_reducible refine CM (em _) ?_);rintro e w1 ⟨rfl,hb1⟩;have HX1:=bk_step HX.out hb1;obtain ⟨x0,x1,x2⟩:=cs3 HX1;clear HX1)
     go_ret
     exact ⟨ret_bool (by rw [HR.out,HL.out] <;> first | rfl | (simp;done) | (simp;omega) | (simpa using h1)),bl_step HB.out hb1⟩
    ·have d1:decide (v=0)=false:=decide_eq_false h1
     have d1':(v == 0)=false:=by simpa using h1
     by_cases h2:0≤m
     ·by_cases h3:m≤7
      ·by_cases h4:0<v
       ·have HL:=H_ (show lfI 0 v m=true from dT (by omega))
        go_enter Tryz.func153,Tryz.ntmps153
        go_wp2_with (go_at_call 158;(with_reducible refine CM (em _) ?_);rintro e w1 ⟨rfl,hb1⟩;have HX1:=bk_step HX.out hb1;obtain ⟨x0,x1,x2⟩:=cs3 HX1;clear HX1)
        go_ret
        exact ⟨ret_bool (by rw [HR.out,HL.out] <;> first | rfl | (simp;done) | (simp;omega) | (simpa using h1)),bl_step HB.out hb1⟩
       ·by_cases h5:m=0
        ·have HL:=H_ (show lfI 0 v m=true from dT (by omega))
         subst h5
         go_enter Tryz.func153,Tryz.ntmps153
         go_wp2_with (go_at_call 158;(with_reducible refine CM (em _) ?_);rintro e w1 ⟨rfl,hb1⟩;have HX1:=bk_step HX.out hb1;obtain ⟨x0,x1,x2⟩:=cs3 HX1;clear HX1)
         go_ret
         exact ⟨ret_bool (by rw [HR.out,HL.out] <;> first | rfl | (simp;done) | (simp;omega) | (simpa using h1)),bl_step HB.out hb1⟩
        ·have HL:=H_ (show lfI 0 v m=false from dF (by omega))
         have d5:decide (m=0)=false:=decide_eq_false h5
         have d5':(m == 0)=false:=by simpa using h5
         go_enter Tryz.func153,Tryz.ntmps153
         go_wp2_with (go_at_call 158;(with_reducible refine CM (em _) ?_);rintro e w1 ⟨rfl,hb1⟩;have HX1:=bk_step HX.out hb1;obtain ⟨x0,x1,x2⟩:=cs3 HX1;clear HX1)
         go_ret
         exact ⟨ret_bool (by rw [HR.out,HL.out] <;> first | rfl | (simp;done) | (simp;omega) | (simpa using h1)),bl_step HB.out hb1⟩
      ·have HL:=H_ (show lfI 0 v m=false from dF (by omega))
       go_enter Tryz.func153,Tryz.ntmps153
       go_wp2_with (go_at_call 158;(with_reducible refine CM (em _) ?_);rintro e w1 ⟨rfl,hb1⟩;have HX1:=bk_step HX.out hb1;obtain ⟨x0,x1,x2⟩:=cs3 HX1;clear HX1)
       go_ret
       exact ⟨ret_bool (by rw [HR.out,HL.out] <;> first | rfl | (simp;done) | (simp;omega) | (simpa using h1)),bl_step HB.out hb1⟩
     ·have HL:=H_ (show lfI 0 v m=false from dF (by omega))
      go_enter Tryz.func153,Tryz.ntmps153
      go_wp2_with (go_at_call 158;(with_reducible refine CM (em _) ?_);rintro e w1 ⟨rfl,hb1⟩;have HX1:=bk_step HX.out hb1;obtain ⟨x0,x1,x2⟩:=cs3 HX1;clear HX1)
      go_ret
      exact ⟨ret_bool (by rw [HR.out,HL.out] <;> first | rfl | (simp;done) | (simp;omega) | (simpa using h1)),bl_step HB.out hb1⟩
   ·have HL:=H_ (show lfI (n+1) v m=false from dF (by omega))
    have h0:((n:Int)+1=0)=False:=by simp;omega
    have h0':((n:Int)+1 == 0)=false:=beq_eq_false_iff_ne.2 (by omega)
    have h1:=h0'
    go_enter Tryz.func153,Tryz.ntmps153
    go_wp2_with (go_at_call 158;(with_reducible refine CM (em _) ?_);rintro e w1 ⟨rfl,hb1⟩;have HX1:=bk_step HX.out hb1;obtain ⟨x0,x1,x2⟩:=cs3 HX1;clear HX1)
    go_ret
    exact ⟨ret_bool (by rw [HR.out,HL.out] <;> first | rfl | (simp;done) | (simp;omega) | (simpa using h1)),bl_step HB.out hb1⟩
 | succ h ih=>
  intro t A cap S w hh hcap hk
  have HB:=H_ ((Below.refl w.heap.size w).alloc (Nat.le_refl _) (.cells #[.slice A t.kids.length cap,.int .i64 t.val,.int .i64 t.marks] 70))
  have em:=fun w=>rEmpty_w A t.kids.length cap t.val t.marks w
  rw [show emI t.kids.length t.val t.marks=t.emB from rfl] at em
  have hz:¬(h:Int)+1=0:=by omega
  have hz2:((h:Int)+1 == 0)=false:=beq_eq_false_iff_ne.2 hz
  have hz3:decide ((h:Int)+1=0)=false:=decide_eq_false hz
  rw [show ((h+1:Nat):Int)=(h:Int)+1 by omega]
  cases he:t.emB with
  | true=>
   have HR:=H_ (rightT_em he (h+1))
   rw [he] at em
   clear he
   go_enter Tryz.func153,Tryz.ntmps153
   go_wp2_with (go_at_call 158;(with_reducible refine CM (em _) ?_);rintro e w1 ⟨rfl,hb1⟩)
   go_ret
   exact ⟨ret_bool HR.out.symm,bl_step HB.out hb1⟩
  | false=>
   rw [he] at em
   have HE:=H_ he
   clear he
   have HX:=H_ (heap_alloc_at w (.cells #[.slice A t.kids.length cap,.int .i64 t.val,.int .i64 t.marks] 70))
   by_cases hv:t.val=0
   ·by_cases hl:t.kids.length=4
    ·have HE2:=H_ (fun ha=>right_end (h:=h) HE.out hv hl ha)
     have HL:=H_ hl
     rw [hl] at em HX HB hcap ⊢
     rw [hv] at em HX HB ⊢
     have HK:=H_ (fun w' (hb:Below w.heap.size w w')=>hk.step hb)
     have HKID:=H_ (fun i k (hi:t.kids[i]?=some k) hf=>right_kid (h:=h) HE.out hi hf)
     have HLV:=H_ (show t.kids.take 4=t.kids by rw [←hl];exact List.take_length)
     have hw:IntKind.i64.wrap ((h:Int)+1 - 1)=(h:Int):=by rw [show (h:Int)+1 - 1=h by omega];exact w64 (by omega)
     have hw2:=w64 (x:=(h:Int)) (by omega)
     clear hv hl hk
     generalize t.marks=m at em HX HB HE2 ⊢
     generalize t.kids=ks at HE2 HK HKID HLV HL
     clear HE
     obtain ⟨b1,hb1e⟩:∃b,b=w.heap.size:=⟨_,rfl⟩
     rw [←hb1e] at HX
     have HBe:=H_ hb1e
     clear hb1e
     go_enter Tryz.func153,Tryz.ntmps153
     go_upto_region 0 with fail
     go_cut [2] (fun s2 wx=>s2 = .pointer (some ⟨b1,0,none⟩)∧wx.heap[b1]?=some (.cells #[.slice A 4 cap,.int .i64 0,.int .i64 m] 70 (0,0))∧Below w.heap.size w wx)
     case first=>
      go_wp2
      go_meet
      case rel=>exact ⟨by rw [HBe.out],HX.out,HB.out⟩
     case rest=>
      clear HX HB
      obtain ⟨rfl,hX,hW⟩:=hcut
      obtain ⟨x0,x1,x2⟩:=cs3 hX
      have HX:=H_ hX
      have HW:=H_ hW
      clear hX hW
      go_upto_region 7 with (go_at_call 158;(with_reducible refine CM (em _) ?_);rintro e w1 ⟨rfl,hb1⟩;have HX1:=bkh HX hb1;have HW1:=blh HW hb1;obtain ⟨x0,x1,x2⟩:=cs3 HX1.out)
      clear HX HW em hb1 hz hz2 hz3
      go_wp2
      clear x0 x1 x2
      go_loopw [5,6,7] (fun s5 s6 s27 wx=>∃i:Nat,i≤4∧s27 = .int .i64 i∧s5 = .int .i64 (orK (ks.take i))∧s6 = .bool (someK (ks.take i))∧(ks.take i).all (rightT h)=true∧wx.heap[b1]?=some (.cells #[.slice A 4 cap,.int .i64 0,.int .i64 m] 70 (0,0))∧Below w.heap.size w wx) (fun _ _ s27 _=>4 - (intOf s27).toNat)
      case atStart=>exact ⟨0,by omega,rfl,rfl,rfl,rfl,HX1.out,HW1.out⟩
      case round=>
       clear HX1 HW1
       obtain ⟨i,hi4,rfl,rfl,rfl,hall,hX,hW⟩:=hrel
       have HX:=H_ hX
       have HW:=H_ hW
       have HA:=H_ hall
       clear hX hW hall
       by_cases hlt:i<4
       ·have hNK:=HK.out _ HW.out
        obtain ⟨b,o,k,A',cap',rfl,_,hbl,hi,hNC,hkm,hkc,hkk⟩:=hNK.at_ (show i<ks.length by rw [HL.out];exact hlt)
        obtain ⟨c0,c1,c2⟩:=hNC
        have HOR:=H_ (orK_take hi)
        have HSM:=H_ (someK_take hi)
        have HAL:=H_ (fun hk=>all_take (p:=rightT h) hi HA.out hk)
        have HKB:=H_ (HKID.out i k hi)
        have HC0:=H_ c0
        have HC1:=H_ c1
        have HC2:=H_ c2
        have hr:=fun w' (hb:Below wr.heap.size wr w')=>ih k A' cap' S w' (by omega) hkc (hkk.step hb)
        have emk:=fun w=>rEmpty_w A' k.kids.length cap' k.val k.marks w
        rw [show emI k.kids.length k.val k.marks=k.emB from rfl] at emk
        have i0:(0:Int)≤(i:Int):=by omega
        have i1:(i:Int)<4:=by omega
        have i2:(i:Int)<(cap:Int):=by omega
        have i3:(i:Int)≤(cap:Int):=by omega
        generalize k.kids.length=kn at hr emk c0 HC0 hkm hkc
        generalize k.marks=km at hr emk c2 HC2 HOR
        generalize k.val=kv at hr emk c1 HC1
        clear hNK hi hkk HA
        obtain ⟨x0,x1,x2⟩:=cs3 HX.out
        cases hrk:rightT h k with
        | false=>
         have HR:=H_ (HKB.out hrk)
         rw [hrk] at hr
         clear hrk
         go_wp2_with (go_at_call 153;(with_reducible refine CM (hr _ B_) ?_);rintro e w1 ⟨rfl,hb1⟩;have HX2:=bkh HX hb1;have HW2:=blh HW hb1;have y0:=(hb1.cell (p:=⟨b,_,none⟩) hbl).trans HC0.out;have y1:=(hb1.cell (p:=⟨b,_,none⟩) hbl).trans HC1.out;have y2:=(hb1.cell (p:=⟨b,_,none⟩) hbl).trans HC2.out;have z0:=cells_at HX2.out 0;have z2:=cells_at HX2.out 2;simp only [List.getElem?_toArray,List.getElem?_cons_zero,List.getElem?_cons_succ] at z0 z2)
         go_ret
         exact ⟨ret_bool HR.out.symm,HW2.out⟩
        | true=>
         have HAK:=H_ (HAL.out hrk)
         rw [hrk] at hr
         clear hrk
         cases hsm:someK (ks.take i) with
         | true=>
          rw [hsm] at HSM
          go_wp2_with (go_at_call 153;(with_reducible refine CM (hr _ B_) ?_);rintro e w1 ⟨rfl,hb1⟩;have HX2:=bkh HX hb1;have HW2:=blh HW hb1;have y0:=(hb1.cell (p:=⟨b,_,none⟩) hbl).trans HC0.out;have y1:=(hb1.cell (p:=⟨b,_,none⟩) hbl).trans HC1.out;have y2:=(hb1.cell (p:=⟨b,_,none⟩) hbl).trans HC2.out;have z0:=cells_at HX2.out 0;have z2:=cells_at HX2.out 2;simp only [List.getElem?_toArray,List.getElem?_cons_zero,List.getElem?_cons_succ] at z0 z2)
          go_roundw
          case rel=>exact ⟨i+1,by omega,by go_num,by rw [HOR.out],by rw [HSM.out];rfl,HAK.out,HX2.out,HW2.out⟩
          case measure=>simp [intOf];omega
         | false=>
          rw [hsm] at HSM
          go_wp2_with (first
           | (go_at_call 153;(with_reducible refine CM (hr _ B_) ?_);rintro e w1 ⟨rfl,hb1⟩;have HX2:=bkh HX hb1;have HW2:=blh HW hb1;have y0:=(hb1.cell (p:=⟨b,_,none⟩) hbl).trans HC0.out;have y1:=(hb1.cell (p:=⟨b,_,none⟩) hbl).trans HC1.out;have y2:=(hb1.cell (p:=⟨b,_,none⟩) hbl).trans HC2.out;have z0:=cells_at HX2.out 0;have z2:=cells_at HX2.out 2;simp only [List.getElem?_toArray,List.getElem?_cons_zero,List.getElem?_cons_succ] at z0 z2)
           | (go_at_call 158;(with_reducible refine CM (emk _) ?_);rintro e w1 ⟨rfl,hb2⟩))
          go_roundw
          case rel=>exact ⟨i+1,by omega,by go_num,by rw [HOR.out],by rw [HSM.out];rfl,HAK.out,bk_step HX2.out hb2,bl_step HW2.out hb2⟩
          case measure=>simp [intOf];omega
       ·obtain rfl:i=4:=by omega
        have hR:=HE2.out
        have hA:=HA.out
        rw [HLV.out] at hA ⊢
        have HR:=H_ (hR hA)
        obtain ⟨x0,x1,x2⟩:=cs3 HX.out
        clear hR hA
        cases hs:someK ks with
        | true=>
         rw [hs] at HR
         by_cases hm:m=orK ks
         ·subst hm
          go_wp2
          go_ret
          exact ⟨ret_bool (by rw [HR.out];simp),HW.out⟩
         ·have hd:decide (m=orK ks)=false:=decide_eq_false hm
          go_wp2
          go_ret
          exact ⟨ret_bool (by rw [HR.out];simp [hm]),HW.out⟩
        | false=>
         rw [hs] at HR
         go_wp2
         go_ret
         exact ⟨ret_bool (by rw [HR.out];simp),HW.out⟩
    ·have HR:=H_ (right_val (h:=h) HE.out (.inr hl))
     have hd:decide ((t.kids.length:Int)=4)=false:=dF (by omega)
     have hd2:((t.kids.length:Int) == 4)=false:=by simp;omega
     have hd3:¬(t.kids.length:Int)=4:=by omega
     rw [hv] at HX HB em ⊢
     go_enter Tryz.func153,Tryz.ntmps153
     go_wp2_with (go_at_call 158;(with_reducible refine CM (em _) ?_);rintro e w1 ⟨rfl,hb1⟩;have HX1:=bk_step HX.out hb1;obtain ⟨x0,x1,x2⟩:=cs3 HX1;clear HX1)
     go_ret
     exact ⟨ret_bool HR.out.symm,bl_step HB.out hb1⟩
   ·have HR:=H_ (right_val (h:=h) HE.out (.inl hv))
    have hd:decide (t.val=0)=false:=decide_eq_false hv
    have hd2:(t.val == 0)=false:=by simpa using hv
    go_enter Tryz.func153,Tryz.ntmps153
    go_wp2_with (go_at_call 158;(with_reducible refine CM (em _) ?_);rintro e w1 ⟨rfl,hb1⟩;have HX1:=bk_step HX.out hb1;obtain ⟨x0,x1,x2⟩:=cs3 HX1;clear HX1)
    all_goals go_ret
    all_goals exact ⟨ret_bool HR.out.symm,bl_step HB.out hb1⟩
end
section
abbrev Cn:=Nat→Int × Int
def sh (c:Cn) (k:Nat):Cn:=fun i=>c (k+i)
theorem sh_sh (c:Cn) (a b:Nat):sh (sh c a) b=sh c (a+b):=by funext i;simp [sh,Nat.add_assoc]
theorem sh_zero (c:Cn):sh c 0=c:=by funext i;simp [sh]
def noneB (n:Nat) (c:Cn):Bool:=decide (∀i,i<n→c i=(0,0))
theorem noneB_true {n:Nat} {c:Cn}:noneB n c=true↔∀i,i<n→c i=(0,0):=by simp [noneB]
theorem noneB_false {n:Nat} {c:Cn}:noneB n c=false↔∃i,i<n∧c i≠(0,0):=by simp [noneB]
def cano:Nat→Cn→T
 | 0,c=> .mk [] (c 0).1 (c 0).2
 | h+1,c=>if noneB (4 ^ (h+1)) c then .nil else .mk ((List.range 4).map fun k=>cano h (sh c (k*4 ^ h))) 0 (orK ((List.range 4).map fun k=>cano h (sh c (k*4 ^ h))))
def kidsC (h:Nat) (c:Cn):List T:=(List.range 4).map fun k=>cano h (sh c (k*4 ^ h))
theorem cano_succ (h:Nat) (c:Cn):cano (h+1) c=if noneB (4 ^ (h+1)) c then .nil else .mk (kidsC h c) 0 (orK (kidsC h c)):=rfl
theorem kidsC_len (h:Nat) (c:Cn):(kidsC h c).length=4:=by simp [kidsC]
theorem kidsC_at {h:Nat} {c:Cn} {k:Nat} (hk:k<4):(kidsC h c)[k]?=some (cano h (sh c (k*4 ^ h))):=by
 unfold kidsC
 rw [List.getElem?_map,List.getElem?_range hk]
 rfl
def leafV (x:Int × Int):Prop:=x=(0,0)∨(x.1≠0∧0≤x.2∧x.2≤7∧(0<x.1∨x.2=0))
def leafy (c:Cn):Prop:=∀i,leafV (c i)
theorem leafy.sh {c:Cn} (h:leafy c) (k:Nat):leafy (sh c k):=fun i=>h (k+i)
theorem pow_split {h i:Nat} (hi:i<4 ^ (h+1)):i / 4 ^ h<4∧i / 4 ^ h*4 ^ h+i % 4 ^ h=i∧i % 4 ^ h<4 ^ h:=by
 have h0:0<4 ^ h:=Nat.pow_pos (by omega)
 refine ⟨?_,?_,Nat.mod_lt _ h0⟩
 ·rw [Nat.div_lt_iff_lt_mul h0]
  rw [Nat.pow_succ] at hi
  omega
 ·have:=Nat.div_add_mod i (4 ^ h)
  rw [Nat.mul_comm]
  exact this
theorem pow_lt {h k j:Nat} (hk:k<4) (hj:j<4 ^ h):k*4 ^ h+j<4 ^ (h+1):=by
 rw [Nat.pow_succ]
 have:k*4 ^ h≤3*4 ^ h:=Nat.mul_le_mul_right _ (by omega)
 omega
theorem none_succ {h:Nat} {c:Cn}:noneB (4 ^ (h+1)) c=true↔∀k,k<4→noneB (4 ^ h) (sh c (k*4 ^ h))=true:=by
 simp only [noneB_true]
 constructor
 ·intro H k hk j hj
  exact H _ (pow_lt hk hj)
 ·intro H i hi
  obtain ⟨h1,h2,h3⟩:=pow_split hi
  have:=H _ h1 _ h3
  simp only [sh] at this
  rw [h2] at this
  exact this
theorem cano_ext:∀(h:Nat) {c c':Cn},(∀i,i<4 ^ h→c i=c' i)→cano h c=cano h c'
 | 0,c,c',H=>by simp only [cano];rw [H 0 (by simp)]
 | h+1,c,c',H=>by
  have e:kidsC h c=kidsC h c':=by
   unfold kidsC
   refine List.map_congr_left fun k hk=>cano_ext h fun i hi=>?_
   exact H _ (pow_lt (List.mem_range.1 hk) hi)
  have e2:noneB (4 ^ (h+1)) c=noneB (4 ^ (h+1)) c':=by
   rw [Bool.eq_iff_iff,noneB_true,noneB_true]
   exact ⟨fun G i hi=>(H i hi).symm.trans (G i hi),fun G i hi=>(H i hi).trans (G i hi)⟩
  rw [cano_succ,cano_succ,e,e2]
theorem emB_mk (ks:List T) (v m:Int):(T.mk ks v m).emB=emI ks.length v m:=rfl
theorem lfB_mk (ks:List T) (v m:Int):(T.mk ks v m).lfB=lfI ks.length v m:=rfl
theorem emI_true {n:Nat} {v m:Int}:emI n v m=true↔n=0∧v=0∧m=0:=by simp [emI]
theorem lfI_true {n:Nat} {v m:Int}:lfI n v m=true↔n=0∧v≠0∧0≤m∧m≤7∧(0<v∨m=0):=by simp [lfI]
theorem emB_nil:T.nil.emB=true:=by decide
theorem emB_cano (h:Nat) (c:Cn):(cano h c).emB=noneB (4 ^ h) c:=by
 cases h with
 | zero=>
  rw [Bool.eq_iff_iff,noneB_true,show cano 0 c = .mk [] (c 0).1 (c 0).2 from rfl,emB_mk,emI_true]
  constructor
  ·rintro ⟨_,h1,h2⟩ i hi
   obtain rfl:i=0:=by simpa using hi
   exact Prod.ext h1 h2
  ·intro H
   have:=H 0 (by simp)
   rw [this]
   simp
 | succ h=>
  rw [cano_succ]
  cases hn:noneB (4 ^ (h+1)) c with
  | true=>rw [if_pos rfl,emB_nil]
  | false=>
   rw [if_neg (by simp)]
   simp [emB_mk,emI,kidsC_len]
theorem someK_kids (h:Nat) (c:Cn):someK (kidsC h c)=!noneB (4 ^ (h+1)) c:=by
 rw [Bool.eq_iff_iff]
 unfold someK
 rw [List.any_eq_true,Bool.not_eq_true',←Bool.not_eq_true,none_succ]
 constructor
 ·rintro ⟨t,ht,h1⟩ H
  unfold kidsC at ht
  obtain ⟨k,hk,rfl⟩:=List.mem_map.1 ht
  rw [emB_cano,H k (List.mem_range.1 hk)] at h1
  simp at h1
 ·intro H
  have:∃k,k<4∧noneB (4 ^ h) (sh c (k*4 ^ h))≠true:=by
   apply Classical.byContradiction
   intro G
   exact H fun k hk=>Classical.byContradiction fun g=>G ⟨k,hk,g⟩
  obtain ⟨k,hk,hn⟩:=this
  exact ⟨_,List.mem_of_getElem? (kidsC_at hk),by rw [emB_cano];simpa using hn⟩
theorem right_cano:∀(h:Nat) {c:Cn},leafy c→rightT h (cano h c)=true
 | 0,c,hc=>by
  simp only [rightT,Bool.or_eq_true]
  rw [show cano 0 c = .mk [] (c 0).1 (c 0).2 from rfl,emB_mk,lfB_mk,emI_true,lfI_true]
  rcases hc 0 with h | h
  ·left;rw [h];simp
  ·right;exact ⟨rfl,h⟩
 | h+1,c,hc=>by
  cases hn:noneB (4 ^ (h+1)) c with
  | true=>exact rightT_em (by rw [emB_cano];exact hn) _
  | false=>
   rw [cano_succ,hn,if_neg (by simp)]
   have he:(T.mk (kidsC h c) 0 (orK (kidsC h c))).emB=false:=by simp [emB_mk,emI,kidsC_len]
   rw [rightT_succ he]
   simp only [T.kids,T.val,T.marks,kidsC_len,someK_kids,hn]
   have:(kidsC h c).all (rightT h)=true:=by
    rw [List.all_eq_true]
    intro t ht
    unfold kidsC at ht
    obtain ⟨k,_,rfl⟩:=List.mem_map.1 ht
    exact right_cano h (hc.sh _)
   rw [this]
   simp
def zeroC:Cn:=fun _=>(0,0)
theorem leafy_zero:leafy zeroC:=fun _=> .inl rfl
theorem none_zero (n:Nat):noneB n zeroC=true:=noneB_true.2 fun _ _=>rfl
theorem cano_none {h:Nat} {c:Cn} (hn:noneB (4 ^ h) c=true):cano h c = .nil:=by
 cases h with
 | zero=>
  simp only [cano]
  rw [noneB_true.1 hn 0 (by simp)]
  rfl
 | succ h=>rw [cano_succ,hn,if_pos rfl]
theorem em_nil {t:T} (h:t.emB=true):t = .nil:=by
 obtain ⟨ks,v,m⟩:=t
 rw [emB_mk,emI_true] at h
 obtain ⟨h1,rfl,rfl⟩:=h
 rw [List.length_eq_zero_iff.1 h1]
 rfl
theorem cano_of_right:∀(h:Nat) {t:T},rightT h t=true→∃c,leafy c∧(∀i,4 ^ h≤i→c i=(0,0))∧t=cano h c
 | h,t,hr=>by
  cases he:t.emB with
  | true=>exact ⟨zeroC,leafy_zero,fun _ _=>rfl,by rw [em_nil he,cano_none (none_zero _)]⟩
  | false=>
   match h with
   | 0=>
    rw [rightT_zero he] at hr
    obtain ⟨ks,v,m⟩:=t
    rw [lfB_mk,lfI_true] at hr
    obtain ⟨h1,h2⟩:=hr
    refine ⟨fun i=>if i=0 then (v,m) else (0,0),fun i=>?_,fun i hi=>?_,?_⟩
    ·by_cases hi:i=0
     ·simp only [hi,if_true];exact .inr h2
     ·simp only [hi,if_false];exact .inl rfl
    ·have:i≠0:=by simp at hi;omega
     simp [this]
    ·rw [List.length_eq_zero_iff.1 h1];simp [cano]
   | h+1=>
    rw [rightT_succ he] at hr
    simp only [Bool.and_eq_true,decide_eq_true_eq] at hr
    obtain ⟨⟨⟨h1,h2⟩,h3⟩,h4,h5⟩:=hr
    obtain ⟨ks,v,m⟩:=t
    simp only [T.kids,T.val,T.marks] at h1 h2 h3 h4 h5
    subst h1
    have ch:∀k:Nat,∃c,leafy c∧∀x,ks[k]?=some x→x=cano h c:=fun k=>by
     cases hx:ks[k]? with
     | none=>exact ⟨zeroC,leafy_zero,fun _ h=>by cases h⟩
     | some x=>
      obtain ⟨c,hc,_,e⟩:=cano_of_right h (List.all_eq_true.1 h3 x (List.mem_of_getElem? hx))
      exact ⟨c,hc,fun y hy=>by injection hy with hy;rw [←hy];exact e⟩
    let f:Nat→Cn:=fun k=>Classical.choose (ch k)
    have hf:∀k,leafy (f k)∧∀x,ks[k]?=some x→x=cano h (f k):=fun k=>Classical.choose_spec (ch k)
    have p0:0<4 ^ h:=Nat.pow_pos (by omega)
    refine ⟨fun i=>if i<4 ^ (h+1) then f (i / 4 ^ h) (i % 4 ^ h) else (0,0),fun i=>?_,fun i hi=>?_,?_⟩
    ·by_cases hi:i<4 ^ (h+1)
     ·simp only [hi,if_true];exact (hf _).1 _
     ·simp only [hi,if_false];exact .inl rfl
    ·show (if i<4 ^ (h+1) then _ else _)=_
     rw [if_neg (by omega)]
    ·have e:ks=kidsC h (fun i=>if i<4 ^ (h+1) then f (i / 4 ^ h) (i % 4 ^ h) else (0,0)):=by
      apply List.ext_getElem?
      intro k
      by_cases hk:k<4
      ·rw [kidsC_at hk]
       have hx:ks[k]?=some ks[k]:=List.getElem?_eq_getElem (by omega)
       rw [hx]
       congr 1
       rw [(hf k).2 _ hx]
       refine cano_ext h fun j hj=>?_
       simp only [sh]
       rw [if_pos (pow_lt hk hj)]
       have e1:(k*4 ^ h+j) / 4 ^ h=k:=by rw [Nat.add_comm,Nat.add_mul_div_right _ _ p0,Nat.div_eq_of_lt hj,Nat.zero_add]
       have e2:(k*4 ^ h+j) % 4 ^ h=j:=by rw [Nat.add_comm,Nat.add_mul_mod_self_right,Nat.mod_eq_of_lt hj]
       rw [e1,e2]
      ·rw [List.getElem?_eq_none (by omega),List.getElem?_eq_none (by rw [kidsC_len];omega)]
     generalize (fun i=>if i<4 ^ (h+1) then f (i / 4 ^ h) (i % 4 ^ h) else (0,0):Cn)=c at e
     subst e
     rw [someK_kids] at h4
     rw [cano_succ,if_neg (by simpa using h4),h5]
def TreeOk (h:Nat) (c:Cn):Prop:=h≤4∧(∀i,4 ^ h≤i→c i=(0,0))∧(h=0∨∃i,4 ^ (h - 1)≤i∧c i≠(0,0))
theorem TreeOk.zero:TreeOk 0 zeroC:=⟨by omega,fun _ _=>rfl,.inl rfl⟩
def highT (t:T):Bool:=someK (t.kids.drop 1)
theorem high_cano {h:Nat} {c:Cn}:highT (cano (h+1) c)=true↔∃i,4 ^ h≤i∧i<4 ^ (h+1)∧c i≠(0,0):=by
 rw [cano_succ]
 cases hn:noneB (4 ^ (h+1)) c with
 | true=>
  rw [if_pos rfl]
  constructor
  ·intro h;simp [highT,T.nil,T.kids,someK] at h
  ·rintro ⟨i,_,h2,h3⟩
   exact absurd (noneB_true.1 hn i h2) h3
 | false=>
  rw [if_neg (by simp)]
  simp only [highT,T.kids,someK,List.any_eq_true]
  have p0:0<4 ^ h:=Nat.pow_pos (by omega)
  constructor
  ·rintro ⟨t,ht,h1⟩
   obtain ⟨k,hk⟩:=List.getElem?_of_mem ht
   rw [List.getElem?_drop] at hk
   have hk4:1+k<4:=by
    have:=(g_l hk)
    rw [kidsC_len] at this
    exact this
   rw [kidsC_at hk4] at hk
   injection hk with hk
   subst hk
   rw [emB_cano] at h1
   obtain ⟨j,hj,hne⟩:=noneB_false.1 (by simpa using h1)
   refine ⟨(1+k)*4 ^ h+j,?_,pow_lt hk4 hj,hne⟩
   have:1*4 ^ h≤(1+k)*4 ^ h:=Nat.mul_le_mul_right _ (by omega)
   omega
  ·rintro ⟨i,h1,h2,h3⟩
   obtain ⟨q1,q2,q3⟩:=pow_split h2
   have hq:1≤i / 4 ^ h:=by rw [Nat.le_div_iff_mul_le p0];omega
   refine ⟨cano h (sh c (i / 4 ^ h*4 ^ h)),?_,?_⟩
   ·refine List.mem_of_getElem? (i:=i / 4 ^ h - 1) ?_
    rw [List.getElem?_drop,show 1+(i / 4 ^ h - 1)=i / 4 ^ h by omega,kidsC_at q1]
   ·rw [emB_cano,noneB_false.2 ⟨i % 4 ^ h,q3,by simp only [sh];rw [q2];exact h3⟩]
    rfl
def validT (h:Int) (t:T):Bool:=decide (0≤h∧h≤4)&&(rightT h.toNat t&&(decide (h=0)||highT t))
theorem valid_of {h:Nat} {c:Cn} (hc:leafy c) (ht:TreeOk h c):validT h (cano h c)=true:=by
 unfold validT
 rw [decide_eq_true (by have:=ht.1;omega),Int.toNat_natCast,right_cano h hc]
 rcases h with _ | h
 ·simp
 ·rcases ht.2.2 with h0 | ⟨i,h1,h2⟩
  ·omega
  ·have:highT (cano (h+1) c)=true:=high_cano.2 ⟨i,by simpa using h1,by
    rcases Nat.lt_or_ge i (4 ^ (h+1)) with hlt | hge
    ·exact hlt
    ·exact absurd (ht.2.1 i hge) h2,h2⟩
   rw [this]
   simp
end
end Go.Proofs.YthhekebemmckcaaGreatDoor
