/-
  Lemmas and contracts for the laws of synchronisations (layer 43), part 7; several texts joined by a program.
-/
import Derived.Test.YthhekebemmckcaaGreatDoorJ01
import Derived.Test.YthhekebemmckcaaGreatDoorJ06
namespace Go.Proofs.YthhekebemmckcaaGreatDoor
set_option linter.unusedVariables false
set_option linter.unusedSimpArgs false
set_option maxRecDepth 100000
set_option maxHeartbeats 16000000
open Go.RowKit
section
theorem LS.bl {W w':World} {v:Value} {B:Nat} {L:List En} (h:LS W (.slice none 0 0) B L v w'):Below W.heap.size W w':=⟨h.gr.os,h.gr.tape,h.gr.output,h.gr.size,fun k hk=>h.gr.block k hk (by simp [Value.ownBlock])⟩
theorem natB (a b:Nat):((a:Int) == (b:Int))=decide (a=b):=by
 by_cases h:a=b
 ·subst h;simp
 ·rw [decide_eq_false h];exact beq_eq_false_iff_ne.2 (by omega)
theorem rValid_w (hI:Int) (t:T) (A:Option Addr) (cap:Nat) (S:Nat→Prop) (w:World) (hm:t.kids.length≤maxLen) (hcap:t.kids.length≤cap) (hk:NK w S A t.kids) :
  Calls Tryz.prog 120 #[trV hI A t.kids.length cap t.val t.marks] w (RetB (validT hI t) w):=by
 by_cases h0:0≤hI
 ·by_cases h4:hI≤4
  ·obtain ⟨h,rfl⟩:=Int.eq_ofNat_of_zero_le h0
   have hr:=fun w' (hb:Below w.heap.size w w')=>subtree_w h t A cap S w' (by omega) hcap (hk.step hb)
   cases hrt:rightT h t with
   | false=>
    have HV:=H_ (show validT h t=false by unfold validT;rw [Int.toNat_natCast,hrt];simp)
    rw [hrt] at hr
    obtain ⟨n,hn⟩:∃n,t.kids.length=n:=⟨_,rfl⟩
    obtain ⟨v,hv⟩:∃v,t.val=v:=⟨_,rfl⟩
    obtain ⟨mm,hm'⟩:∃m,t.marks=m:=⟨_,rfl⟩
    rw [hn,hv,hm'] at hr ⊢
    clear hrt hn hv hm' hk hm hcap
    have HX:=H_ (heap_alloc_at w (.cells #[.int .i64 (h:Int),.slice A n cap,.int .i64 v,.int .i64 mm] 72))
    have HW:=H_ (bl_alloc (Below.refl w.heap.size w) (.cells #[.int .i64 (h:Int),.slice A n cap,.int .i64 v,.int .i64 mm] 72))
    go_enter Tryz.func120,Tryz.ntmps120
    go_wp2_with (go_at_call 153;(with_reducible refine CM (hr _ (by (repeat (with_reducible first | assumption | exact Below.refl _ _ | refine bl_alloc ?_ _ | apply Below.drew | refine below_drewN ?_ _ | (apply bl_step2;assumption) | (refine Below.setCell ?_ (Nat.le_refl _) _) | (refine Below.setCell ?_ (by first | omega | (simp;done) | (go_simp;done)) _))))) ?_);rintro e w1 ⟨rfl,hb1⟩;have HX1:=bkh HX hb1;have HW1:=blh HW hb1;obtain ⟨x0,x1,x2,x3⟩:=cs4 HX1.out)
    go_ret
    exact ⟨ret_bool HV.out.symm,HW1.out⟩
   | true=>
    obtain ⟨c,hl,hz,rfl⟩:=cano_of_right h hrt
    have hp:4 ^ h≤256:=show 4 ^ h≤4 ^ 4 from Nat.pow_le_pow_right (by omega) (by omega)
    have hli:=fun w' (hb:Below w.heap.size w w')=>rlist_w h c A cap (.slice none 0 0) w.heap.size [] 0 w' (by omega) (by omega) (by simp;omega) hcap hb.size ((hk.step hb).weak fun _ _ _=>by simp [Value.ownBlock]) (World.ownsRow_nil _ _ _ _)
    rw [List.nil_append] at hli
    have hvl:=valid_list (h:=h) (by omega) hl hz
    rw [hrt] at hr
    obtain ⟨n,hn⟩:∃n,(cano h c).kids.length=n:=⟨_,rfl⟩
    obtain ⟨v,hv⟩:∃v,(cano h c).val=v:=⟨_,rfl⟩
    obtain ⟨mm,hm'⟩:∃m,(cano h c).marks=m:=⟨_,rfl⟩
    rw [hn,hv,hm'] at hr hli ⊢
    generalize validT h (cano h c)=res at hvl ⊢
    have hen:=ents_len 0 (4 ^ h) c
    generalize ents 0 (4 ^ h) c=es at hvl hli hen
    generalize 4 ^ h=p at hp hen
    have HVL:=H_ hvl
    clear hrt hn hv hm' hk hm hcap hl hz hvl
    have HX:=H_ (heap_alloc_at w (.cells #[.int .i64 (h:Int),.slice A n cap,.int .i64 v,.int .i64 mm] 72))
    have HW:=H_ (bl_alloc (Below.refl w.heap.size w) (.cells #[.int .i64 (h:Int),.slice A n cap,.int .i64 v,.int .i64 mm] 72))
    go_enter Tryz.func120,Tryz.ntmps120
    go_upto_region 3 with (go_at_call 153;(with_reducible refine CM (hr _ (by (repeat (with_reducible first | assumption | exact Below.refl _ _ | refine bl_alloc ?_ _ | apply Below.drew | refine below_drewN ?_ _ | (apply bl_step2;assumption) | (refine Below.setCell ?_ (Nat.le_refl _) _) | (refine Below.setCell ?_ (by first | omega | (simp;done) | (go_simp;done)) _))))) ?_);rintro e w1 ⟨rfl,hb1⟩;have HX1:=bkh HX hb1;have HW1:=blh HW hb1;obtain ⟨x0,x1,x2,x3⟩:=cs4 HX1.out)
    go_cut [1,3] (fun s1 s3 wx=>s1 = .pointer (some ⟨w.heap.size,0,none⟩)∧wx.heap[w.heap.size]?=some (.cells #[.int .i64 (h:Int),.slice A n cap,.int .i64 v,.int .i64 mm] 72 (0,0))∧EA wx Any s3 es∧Below w.heap.size w wx)
    case first=>
     go_wp2_with (go_at_call 128;(with_reducible refine CM (hli _ HW1.out) ?_);rintro e w2 ⟨vv,rfl,hS⟩)
     go_meet
     case rel=>exact ⟨rfl,hS.bk HX1.out (by simp [Value.ownBlock]),EA.of_own hS.own (fun _ _=>trivial),bl_step HW1.out hS.bl⟩
    case rest=>
     clear HX HW HX1 HW1 x0 x1 x2 x3 hb1
     obtain ⟨rfl,hX,hE,hW⟩:=hcut
     have HX:=H_ hX
     have HW:=H_ hW
     have hE0:=hE
     obtain ⟨A',cap',rfl,_,_,_⟩:=hE0
     have HE:=H_ hE
     obtain ⟨x0,x1,x2,x3⟩:=cs4 HX.out
     clear hX hW hE
     rcases HVL.out with ⟨rfl,hr1⟩ | ⟨l',j,xx,yy,rfl,hj,hr1⟩
     ·have HR:=H_ hr1
      clear hr1
      by_cases hh:h=0
      ·subst hh
       go_wp2
       go_ret
       exact ⟨ret_bool (by rw [HR.out];rfl),HW.out⟩
      ·have e1:((h:Int) == 0)=false:=beq_eq_false_iff_ne.2 (by omega)
       have e2:decide ((h:Int)=0)=false:=dF (by omega)
       have HD:=H_ (decide_eq_false hh)
       go_wp2
       go_ret
       exact ⟨ret_bool (by rw [HR.out,HD.out]),HW.out⟩
     ·have HR:=H_ hr1
      clear hr1
      have hlen:(l' ++ [((j:Int),xx,yy)]).length=l'.length+1:=by simp
      obtain ⟨b,o,cap'',d,s,c',e0,_,_,hbl,he,c0,c1,c2⟩:=HE.out.at_ (i:=l'.length) (by rw [hlen];omega)
      injection e0 with e0 e1 e2
      subst e0 e2
      rw [List.getElem?_append_right (by omega),Nat.sub_self] at he
      simp only [List.getElem?_cons_zero,Option.some.injEq,Prod.mk.injEq] at he
      obtain ⟨rfl,rfl,rfl⟩:=he
      rw [hlen] at hen
      have hls:=fun w=>heightFor_w j w hj
      have e1:((l'.length:Int)+1 == 0)=false:=beq_eq_false_iff_ne.2 (by omega)
      have i0:IntKind.i64.wrap ((l'.length:Int)+1 - 1)=(l'.length:Int):=by rw [show (l'.length:Int)+1 - 1=l'.length by omega];exact w64 (by omega)
      have i1:(0:Int)≤(l'.length:Int):=by omega
      have i2:(l'.length:Int)<(l'.length:Int)+1:=by omega
      have HLN:=H_ hlen
      rw [hlen]
      clear hlen
      generalize l'.length=n' at *
      have lX:=bk_lt HX.out
      go_upto_region 6 with fail
      go_quiet ((go_at_call 154;exact Calls.quiet_of_eq (hls _)))
      go_wp2
      go_ret
      exact ⟨ret_bool (by rw [HR.out];exact natB _ _),below_drewN HW.out _⟩
  ·have HV:=H_ (show validT hI t=false by unfold validT;rw [dF (by omega)];rfl)
   obtain ⟨n,hn⟩:∃n,t.kids.length=n:=⟨_,rfl⟩
   obtain ⟨v,hv⟩:∃v,t.val=v:=⟨_,rfl⟩
   obtain ⟨mm,hm'⟩:∃m,t.marks=m:=⟨_,rfl⟩
   rw [hn,hv,hm']
   have HW:=H_ (bl_alloc (Below.refl w.heap.size w) (.cells #[.int .i64 hI,.slice A n cap,.int .i64 v,.int .i64 mm] 72))
   clear hn hv hm' hk hm hcap
   go_enter Tryz.func120,Tryz.ntmps120
   go_wp2
   go_ret
   exact ⟨ret_bool HV.out.symm,HW.out⟩
 ·have HV:=H_ (show validT hI t=false by unfold validT;rw [dF (by omega)];rfl)
  obtain ⟨n,hn⟩:∃n,t.kids.length=n:=⟨_,rfl⟩
  obtain ⟨v,hv⟩:∃v,t.val=v:=⟨_,rfl⟩
  obtain ⟨mm,hm'⟩:∃m,t.marks=m:=⟨_,rfl⟩
  rw [hn,hv,hm']
  have HW:=H_ (bl_alloc (Below.refl w.heap.size w) (.cells #[.int .i64 hI,.slice A n cap,.int .i64 v,.int .i64 mm] 72))
  clear hn hv hm' hk hm hcap
  go_enter Tryz.func120,Tryz.ntmps120
  go_wp2
  go_ret
  exact ⟨ret_bool HV.out.symm,HW.out⟩
theorem rEntries_w (h:Nat) (c:Cn) (A:Option Addr) (cap:Nat) (S:Nat→Prop) (w:World) (hl:leafy c) (ht:TreeOk h c) (hcap:(cano h c).kids.length≤cap) (hk:NK w S A (cano h c).kids) :
  Calls Tryz.prog 80 #[trV h A (cano h c).kids.length cap (cano h c).val (cano h c).marks] w (RetE (ents 0 (4 ^ h) c) w):=by
 have h4:=ht.1
 have hp:4 ^ h≤256:=show 4 ^ h≤4 ^ 4 from Nat.pow_le_pow_right (by omega) h4
 have hva:=fun w' (hb:Below w.heap.size w w')=>rValid_w h (cano h c) A cap S w' (cano_ml _ _) hcap (hk.step hb)
 rw [valid_of hl ht] at hva
 have hli:=fun w' (hb:Below w.heap.size w w')=>rlist_w h c A cap (.slice none 0 0) w.heap.size [] 0 w' h4 (by omega) (by simp;omega) hcap hb.size ((hk.step hb).weak fun _ _ _=>by simp [Value.ownBlock]) (World.ownsRow_nil _ _ _ _)
 rw [List.nil_append] at hli
 obtain ⟨n,hn⟩:∃n,(cano h c).kids.length=n:=⟨_,rfl⟩
 obtain ⟨v,hv⟩:∃v,(cano h c).val=v:=⟨_,rfl⟩
 obtain ⟨mm,hm⟩:∃m,(cano h c).marks=m:=⟨_,rfl⟩
 rw [hn,hv,hm] at hva hli ⊢
 have HX:=H_ (heap_alloc_at w (.cells #[.int .i64 (h:Int),.slice A n cap,.int .i64 v,.int .i64 mm] 72))
 have HW:=H_ (bl_alloc (Below.refl w.heap.size w) (.cells #[.int .i64 (h:Int),.slice A n cap,.int .i64 v,.int .i64 mm] 72))
 generalize ents 0 (4 ^ h) c=es at hli ⊢
 clear hn hv hm hk hl ht hcap hp
 go_enter Tryz.func80,Tryz.ntmps80
 go_wp2_with (first
  | (go_at_call 120;(with_reducible refine CM (hva _ (by (repeat (with_reducible first | assumption | exact Below.refl _ _ | refine bl_alloc ?_ _ | apply Below.drew | refine below_drewN ?_ _ | (apply bl_step2;assumption) | (refine Below.setCell ?_ (Nat.le_refl _) _) | (refine Below.setCell ?_ (by first | omega | (simp;done) | (go_simp;done)) _))))) ?_);rintro e w1 ⟨rfl,hb1⟩;have HX1:=bkh HX hb1;have HW1:=blh HW hb1;obtain ⟨x0,x1,x2,x3⟩:=cs4 HX1.out)
  | (go_at_call 128;(with_reducible refine CM (hli _ HW1.out) ?_);rintro e w2 ⟨vv,rfl,hS⟩))
 go_ret
 exact RetE.of HW1.out hS
end
section
def findP (l:List En) (i:Int):Int:=match l.findIdx? (fun e=>e.1 == i) with | some k=>(k:Int) | none=>-1
theorem findP_at {l:List En} {i:Int} {k:Nat} {v m:Int} (h:l[k]?=some (i,v,m)) (hn:∀j d s c,j<k→l[j]?=some (d,s,c)→d≠i):findP l i=(k:Int):=by
 unfold findP
 have:l.findIdx? (fun e=>e.1 == i)=some k:=by
  rw [List.findIdx?_eq_some_iff_getElem]
  have hk:=(List.getElem?_eq_some_iff.1 h)
  refine ⟨hk.1,by rw [hk.2];simp,fun j hj=>?_⟩
  have:=hn j _ _ _ hj (List.getElem?_eq_getElem (by have:=hk.1;omega))
  simpa using this
 rw [this]
theorem findP_no {l:List En} {i:Int} (hn:∀(j:Nat) d s c,l[j]?=some (d,s,c)→d≠i):findP l i=-1:=by
 unfold findP
 have:l.findIdx? (fun e=>e.1 == i)=none:=by
  rw [List.findIdx?_eq_none_iff]
  intro x hx
  obtain ⟨j,hj⟩:=List.getElem?_of_mem hx
  obtain ⟨d,s,c⟩:=x
  have:=hn j d s c hj
  simpa using this
 rw [this]
theorem rfind_w (l:List En) (v:Value) (S:Nat→Prop) (i:Int) (w:World) (hE:EA w S v l):Calls Tryz.prog 81 #[v,.int .i64 i] w fun e w'=>e = .returned (.int .i64 (findP l i))∧w=w':=by
 have hE0:=hE
 obtain ⟨A,cap,rfl,hc,hm,_⟩:=hE0
 have HE:=H_ hE
 unfold maxLen at hm
 clear hE
 go_enter Tryz.func81,Tryz.ntmps81
 go_wp2
 go_loop [5] (fun s5=>∃k:Nat,k≤l.length∧s5 = .int .i64 k∧∀(j:Nat) d s c,j<k→l[j]?=some (d,s,c)→d≠i) (fun s5=>l.length - (intOf s5).toNat)
 case atStart=>exact ⟨0,by omega,rfl,fun j d s c h=>by omega⟩
 case round=>
  obtain ⟨k,hk,rfl,hn⟩:=hrel
  have HN:=H_ hn
  clear hn
  by_cases hlt:k<l.length
  ·obtain ⟨b,o,cap',d,s,c,e0,_,_,hbl,he,c0,c1,c2⟩:=HE.out.at_ hlt
   injection e0 with e0 _ e2
   subst e0
   have hd:=H_ he
   have k0:(0:Int)≤(k:Int):=by omega
   have k1:(k:Int)<(l.length:Int):=by omega
   clear he e2 c1 c2
   by_cases e:d=i
   ·subst e
    have HF:=H_ (findP_at hd.out HN.out)
    go_wp2
    go_ret
    exact ⟨by rw [HF.out];rfl,rfl⟩
   ·have e1:(d == i)=false:=beq_eq_false_iff_ne.2 e
    have HNE:=H_ e
    clear e
    go_wp2
    go_round
    case rel=>
     refine ⟨k+1,by omega,by go_num,fun j d' s' c' hj hjj=>?_⟩
     by_cases hjk:j=k
     ·subst hjk
      rw [hd.out] at hjj
      injection hjj with hjj
      injection hjj with h1 _
      rw [←h1];exact HNE.out
     ·exact HN.out j d' s' c' (by omega) hjj
    case measure=>simp [intOf];omega
  ·obtain rfl:k=l.length:=by omega
   have HF:=H_ (findP_no fun j d s c hj=>HN.out j d s c (g_l hj) hj)
   go_wp2
   go_ret
   exact ⟨by rw [HF.out];rfl,rfl⟩
theorem findP_range (l:List En) (i:Int):findP l i=-1∨∃k:Nat,findP l i=(k:Int)∧k<l.length∧∃v m,l[k]?=some (i,v,m):=by
 unfold findP
 cases h:l.findIdx? (fun e=>e.1 == i) with
 | none=>exact .inl rfl
 | some k=>
  rw [List.findIdx?_eq_some_iff_getElem] at h
  obtain ⟨h1,h2,_⟩:=h
  refine .inr ⟨k,rfl,h1,l[k].2.1,l[k].2.2,?_⟩
  rw [List.getElem?_eq_getElem h1,←show l[k].1=i by simpa using h2]
def lkP (l:List En) (i:Int):Int × Int:=match l.find? (fun e=>e.1 == i) with | some e=>e.2 | none=>(0,0)
theorem lkP_at {l:List En} {i:Int} {k:Nat} {v m:Int} (hf:findP l i=(k:Int)) (h:l[k]?=some (i,v,m)):lkP l i=(v,m):=by
 unfold findP at hf
 unfold lkP
 cases h1:l.findIdx? (fun e=>e.1 == i) with
 | none=>rw [h1] at hf;simp at hf
 | some k'=>
  rw [h1] at hf
  obtain rfl:k'=k:=by simp only at hf;omega
  rw [List.findIdx?_eq_some_iff_getElem] at h1
  obtain ⟨g1,g2,g3⟩:=h1
  have:l.find? (fun e=>e.1 == i)=some l[k']:=by
   rw [List.find?_eq_some_iff_getElem]
   exact ⟨g2,k',g1,rfl,fun j hj=>by have:=g3 j hj;simpa using this⟩
  rw [this]
  rw [List.getElem?_eq_getElem g1] at h
  injection h with h
  simp only [h]
theorem lkP_no {l:List En} {i:Int} (hf:findP l i=-1):lkP l i=(0,0):=by
 unfold findP at hf
 unfold lkP
 cases h1:l.findIdx? (fun e=>e.1 == i) with
 | some k=>rw [h1] at hf;simp at hf
 | none=>
  have:l.find? (fun e=>e.1 == i)=none:=by
   rw [List.find?_eq_none]
   rw [List.findIdx?_eq_none_iff] at h1
   intro x hx
   simpa using h1 x hx
  rw [this]
theorem mem_ents {base n:Nat} {c:Cn} {e:En}:e ∈ ents base n c↔∃j,j<n∧c j≠(0,0)∧e=(((base+j:Nat):Int),(c j).1,(c j).2):=by
 unfold ents
 rw [List.mem_filterMap]
 constructor
 ·rintro ⟨j,hj,h⟩
  split at h
  ·cases h
  ·next hne=>exact ⟨j,List.mem_range.1 hj,hne,by simpa using h.symm⟩
 ·rintro ⟨j,hj,hne,rfl⟩
  exact ⟨j,List.mem_range.2 hj,by rw [if_neg hne]⟩
theorem lkP_ents {n:Nat} {c:Cn} (hz:∀i,n≤i→c i=(0,0)) (i:Int):lkP (ents 0 n c) i=if 0≤i then c i.toNat else (0,0):=by
 unfold lkP
 cases h:(ents 0 n c).find? (fun e=>e.1 == i) with
 | some e=>
  obtain ⟨j,hj,hne,rfl⟩:=mem_ents.1 (List.mem_of_find?_eq_some h)
  have h1:=List.find?_some h
  have h2:(((0+j:Nat)):Int)=i:=by simpa using h1
  rw [if_pos (by omega),show i.toNat=j by omega]
 | none=>
  rw [List.find?_eq_none] at h
  by_cases h0:0≤i
  ·rw [if_pos h0]
   apply Eq.symm
   apply Classical.byContradiction
   intro hne
   rcases Nat.lt_or_ge i.toNat n with hlt | hge
   ·have:=h _ (mem_ents.2 ⟨i.toNat,hlt,hne,rfl⟩)
    apply this
    rw [beq_iff_eq]
    show (((0+i.toNat:Nat)):Int)=i
    omega
   ·exact hne (hz _ hge)
  ·rw [if_neg h0]
theorem one_b (m:Int) (w:World):Calls Tryz.prog 167 #[.int .i64 m] w fun e w'=>e = .returned (.bool (oneB m))∧w=w':=one_w m w
def Ents (x:Value) (l:List En) (w:World):Prop:=∀w',Below w.heap.size w w'→Calls Tryz.prog 80 #[x] w' (RetE l w')
section
variable (hI:Int) (A:Option Addr) (n cap:Nat) (v mm:Int) (l:List En) (w:World) (hes:Ents (trV hI A n cap v mm) l w)
include hes
theorem rGet_w (i:Int):Calls Tryz.prog 40 #[trV hI A n cap v mm,.int .i64 i] w (RetI (lkP l i).1 w):=by
 have HW:=H_ (bl_alloc (Below.refl w.heap.size w) (.cells #[.int .i64 hI,.slice A n cap,.int .i64 v,.int .i64 mm] 72))
 unfold Ents at hes
 go_enter Tryz.func40,Tryz.ntmps40
 go_upto_region 2 with (go_at_call 80;(with_reducible refine CM (hes _ (by (repeat (with_reducible first | assumption | exact Below.refl _ _ | refine bl_alloc ?_ _ | apply Below.drew | refine below_drewN ?_ _ | (apply bl_step2;assumption) | (refine Below.setCell ?_ (Nat.le_refl _) _) | (refine Below.setCell ?_ (by first | omega | (simp;done) | (go_simp;done)) _))))) ?_);rintro e w1 ⟨vv,rfl,hown,hb1⟩)
 have hE:=EA.of_own (S:=Any) hown (fun _ _=>trivial)
 have HE:=H_ hE
 have HW1:=blh HW hb1
 obtain ⟨A',cap',rfl,_,hm,_⟩:=hE
 have hff:=fun w' (h:EA w' Any (.slice A' l.length cap') l)=>rfind_w l (.slice A' l.length cap') Any i w' h
 unfold maxLen at hm
 clear hown hb1
 rcases findP_range l i with hf | ⟨k,hf,hk,vx,mx,hat⟩
 ·rw [hf] at hff
  have HS:=H_ (lkP_no hf)
  clear hf
  go_wp2_with (go_at_call 81;(with_reducible refine CM (hff _ HE.out) ?_);rintro e w2 ⟨rfl,rfl⟩)
  go_ret
  exact ⟨by rw [HS.out];rfl,HW1.out⟩
 ·rw [hf] at hff
  have HS:=H_ (lkP_at hf hat)
  obtain ⟨b,o,cap'',d,s,c,e0,_,_,hbl,he,c0,c1,c2⟩:=HE.out.at_ hk
  injection e0 with e0 _ e2
  subst e0
  rw [hat] at he
  injection he with he
  injection he with h1 he
  injection he with h2 h3
  subst h2 h3
  have k0:(0:Int)≤(k:Int):=by omega
  have k1:(k:Int)<(l.length:Int):=by omega
  clear hf hat h1 e2 c0 c2
  go_wp2_with (go_at_call 81;(with_reducible refine CM (hff _ HE.out) ?_);rintro e w2 ⟨rfl,rfl⟩)
  go_ret
  exact ⟨by rw [HS.out];rfl,HW1.out⟩
end
end
section
section
variable (hI:Int) (A:Option Addr) (n cap:Nat) (v mm:Int) (l:List En) (w:World) (hes:Ents (trV hI A n cap v mm) l w)
include hes
end
end
section
theorem or_and:∀(a b:Fin 8),(bits .or .i64 (a.val:Int) (b.val:Int):Int)=((a.val ||| b.val:Nat):Int):=by decide +kernel
theorem or_has:∀(a b m:Fin 8),(m.val=1∨m.val=2∨m.val=4)→(((a.val ||| b.val) &&& m.val=0)↔(a.val &&& m.val=0∧b.val &&& m.val=0))∧(a.val ||| b.val)<8:=by decide +kernel
def mk7 (x:Int):Prop:=0≤x∧x≤7
theorem mk7_fin {x:Int} (h:mk7 x):∃a:Fin 8,x=(a.val:Int):=⟨⟨x.toNat,by have:=h.1;have:=h.2;omega⟩,by have:=h.1;simp;omega⟩
theorem orI_mk7 {a b:Int} (ha:mk7 a) (hb:mk7 b):mk7 (orI a b):=by
 obtain ⟨x,rfl⟩:=mk7_fin ha
 obtain ⟨y,rfl⟩:=mk7_fin hb
 show mk7 (bits .or .i64 _ _)
 rw [or_and]
 have:=(or_has x y 1 (.inl rfl)).2
 exact ⟨by omega,by omega⟩
theorem leafV_mk7 {x:Int × Int} (h:leafV x):mk7 x.2:=by
 rcases h with rfl | ⟨_,h1,h2,_⟩
 ·exact ⟨by omega,by omega⟩
 ·exact ⟨h1,h2⟩
end
end Go.Proofs.YthhekebemmckcaaGreatDoor
