/-
  Lemmas and contracts for the laws of synchronisations (layer 43), part 8; several texts joined by a program.
-/
import Derived.Test.YthhekebemmckcaaGreatDoorJ01
import Derived.Test.YthhekebemmckcaaGreatDoorJ07
namespace Go.Proofs.YthhekebemmckcaaGreatDoor
set_option linter.unusedVariables false
set_option linter.unusedSimpArgs false
set_option maxRecDepth 100000
set_option maxHeartbeats 16000000
open Go.RowKit
section
def cOf (l:List En):Cn:=fun i=>lkP l (i:Int)
def Good (l:List En):Prop:=∀e ∈ l,0≤e.1∧e.1<256∧e.2≠(0,0)
def inR (at_ p:Nat) (l:List En):List En:=l.filter (fun e=>decide ((at_:Int)≤e.1)&&decide (e.1 - (at_:Int)<(p:Int)))
theorem Good.inR {l:List En} (h:Good l) (a p:Nat):Good (inR a p l):=fun e he=>h e (List.mem_filter.1 he).1
theorem lkP_inR {l:List En} {a p:Nat} {i:Int} (h1:(a:Int)≤i) (h2:i - (a:Int)<(p:Int)):lkP (inR a p l) i=lkP l i:=by
 unfold lkP inR
 rw [List.find?_filter]
 congr 2
 funext e
 by_cases he:e.1=i
 ·subst he;simp [h1,h2]
 ·have:(e.1 == i)=false:=beq_eq_false_iff_ne.2 he
  rw [this]
  simp
theorem lkP_nil_of {l:List En} {i:Int} (h:∀e ∈ l,e.1≠i):lkP l i=(0,0):=by
 unfold lkP
 rw [List.find?_eq_none.2 fun x hx=>by simpa using h x hx]
theorem lkP_ne {l:List En} {i:Int} (hg:Good l) (h:∃e ∈ l,e.1=i):lkP l i≠(0,0):=by
 obtain ⟨e,he,hi⟩:=h
 unfold lkP
 cases hf:l.find? (fun e=>e.1 == i) with
 | none=>exact absurd (List.find?_eq_none.1 hf e he) (by simp [hi])
 | some x=>exact (hg x (List.mem_of_find?_eq_some hf)).2.2
theorem inR_nil {l:List En} {a p:Nat} (h:inR a p l=[]):noneB p (sh (cOf l) a)=true:=noneB_true.2 fun j hj=>by
 show lkP l ((a+j:Nat):Int)=(0,0)
 refine lkP_nil_of fun e he hi=>?_
 have:e ∈ inR a p l:=List.mem_filter.2 ⟨he,by rw [hi];simp;omega⟩
 rw [h] at this
 cases this
theorem inR_ne {l:List En} {a p:Nat} (hg:Good l) (h:inR a p l≠[]):noneB p (sh (cOf l) a)=false:=by
 obtain ⟨e,he⟩:=List.exists_mem_of_ne_nil _ h
 obtain ⟨h1,h2⟩:=List.mem_filter.1 he
 simp only [Bool.and_eq_true,decide_eq_true_eq] at h2
 obtain ⟨g1,g2,g3⟩:=hg e h1
 refine noneB_false.2 ⟨(e.1 - (a:Int)).toNat,by omega,?_⟩
 show lkP l ((a+(e.1 - (a:Int)).toNat:Nat):Int)≠(0,0)
 rw [show ((a+(e.1 - (a:Int)).toNat:Nat):Int)=e.1 by omega]
 exact lkP_ne hg ⟨e,h1,rfl⟩
theorem inR_head {l:List En} {a:Nat} {e:En} {r:List En} (h:inR a 1 l=e :: r):sh (cOf l) a 0=e.2:=by
 have he:e ∈ inR a 1 l:=by rw [h];simp
 obtain ⟨h1,h2⟩:=List.mem_filter.1 he
 simp only [Bool.and_eq_true,decide_eq_true_eq] at h2
 have hi:e.1=(a:Int):=by omega
 show lkP l ((a+0:Nat):Int)=e.2
 rw [Nat.add_zero,←lkP_inR (a:=a) (p:=1) (by omega) (by omega),h]
 unfold lkP
 rw [List.find?_cons,show (e.1 == (a:Int))=true from beq_iff_eq.2 hi]
theorem inR_sub {l:List En} {a p q h:Nat} (hp:q+4 ^ h≤p):cano h (sh (cOf (inR a p l)) (a+q))=cano h (sh (cOf l) (a+q)):=cano_ext h fun j hj=>by
 show lkP (inR a p l) ((a+q+j:Nat):Int)=lkP l ((a+q+j:Nat):Int)
 exact lkP_inR (by omega) (by omega)
theorem inR_take {l:List En} {a p k:Nat} {e:En} (h:l[k]?=some e):inR a p (l.take (k+1))=inR a p (l.take k) ++ if (decide ((a:Int)≤e.1)&&decide (e.1 - (a:Int)<(p:Int))) then [e] else []:=by
 unfold inR
 rw [List.take_add_one,h,Option.toList_some,List.filter_append,List.filter_cons,List.filter_nil]
theorem inR_len (l:List En) (a p:Nat):(inR a p l).length≤l.length:=List.length_filter_le _ _
theorem own_drew {w:World} {B sz n:Nat} {t:TypeId} {v:Value} {xs:List Value} (h:w.ownsRow B t sz v n xs) (m:Nat):(w.drewN m).ownsRow B t sz v n xs:=h
theorem ens_snoc {w:World} {B:Nat} {v:Value} {l:List En} {i x m:Int} {t:TypeId} (h:w.ownsRow B t 3 v (l.length+1) (ens l ++ [.int .i64 i,.int .i64 x,.int .i64 m])):w.ownsRow B t 3 v (l ++ [(i,x,m)]).length (ens (l ++ [(i,x,m)])):=by
 rw [ens_app]
 simpa [ens] using h
theorem node_w:∀(h:Nat) (l:List En) (v:Value) (at_:Nat) (S Sv:Nat→Prop) (w:World),h≤4→Good l→l.length≤1000→at_+4 ^ h≤256→EA w Sv v l→(∀b,w.heap.size≤b→S b)→
  Calls Tryz.prog 155 #[v,.int .i64 h,.int .i64 at_] w (RetT (cano h (sh (cOf l) at_)) S w):=by
 intro h
 induction h with
 | zero=>
  intro l v a S Sv w hh hg hlen hat hE hS
  obtain ⟨A,cap,rfl,hcap,hcm,_⟩:=id hE
  have HE:=H_ (fun w' (hb:Below w.heap.size w w')=>hE.step hb)
  obtain ⟨i0,hi,hz0,hz1,hz2⟩:=info_parts entry_info
  obtain ⟨b,hb⟩:∃b,b=w.heap.size:=⟨_,rfl⟩
  have HBe:=H_ hb
  have HG:=H_ hg
  have HSS:=H_ hS
  clear hE hb hg hS
  unfold maxLen at hcm
  have hpw:=fun w=>power_w 0 w (by omega)
  generalize hP:4 ^ 0=P at *
  have HP:=H_ hP
  clear hP
  go_enter Tryz.func155,Tryz.ntmps155
  go_wp2
  go_loopw [7,8] (fun s7 s8 wx=>∃k:Nat,k≤l.length∧s8 = .int .i64 k∧wx.ownsRow (b+1) 137 3 s7 (inR a P (l.take k)).length (ens (inR a P (l.take k)))∧wx.heap[b]?=some (.cells #[.slice none 0 0,.int .i64 0,.int .i64 0] 70 (0,0))∧Below w.heap.size w wx) (fun _ s8 _=>l.length - (intOf s8).toNat)
  case atStart=>exact ⟨0,by omega,rfl,World.ownsRow_nil _ _ _ _,by rw [HBe.out];exact heap_alloc_at _ _,bl_alloc B_ _⟩
  case round=>
   obtain ⟨k,hk,rfl,hown,hX,hW⟩:=hrel
   have Hown:=H_ hown
   have HX:=H_ hX
   have HW:=H_ hW
   clear hown hX hW
   by_cases hlt:k<l.length
   ·obtain ⟨bb,o,cap',d,s,c,e0,_,_,hbl,he,c0,c1,c2⟩:=(HE.out _ HW.out).at_ hlt
    injection e0 with e0 _ e2
    subst e0
    obtain ⟨g1,g2,g3⟩:=HG.out _ (List.mem_of_getElem? he)
    simp only at g1 g2
    have HT:=H_ (inR_take (a:=a) (p:=P) he)
    have hll:=inR_len (l.take k) a P
    rw [List.length_take,Nat.min_eq_left hk] at hll
    have k0:(0:Int)≤(k:Int):=by omega
    have k1:(k:Int)<(l.length:Int):=by omega
    have hlb:=bk_lt HX.out
    have hle:=HW.out.size
    have w1:=w64 (x:=d - (a:Int)) (by omega)
    clear he e2 g3
    go_upto_region 5 with fail
    by_cases q1:(a:Int)≤d
    ·have q1':decide ((a:Int)≤d)=true:=decide_eq_true q1
     go_quiet ((go_at_call 159;exact Calls.quiet_of_eq (hpw _)))
     have HX2:=H_ (show (wr.drewN nq).heap[b]?=_ from HX.out)
     have HW2:=H_ (below_drewN HW.out nq)
     have Hown2:=H_ (own_drew Hown.out nq)
     have hbl2:bb<(wr.drewN nq).heap.size:=hbl
     have c0:(wr.drewN nq).cell? ⟨bb,o+k*3,none⟩=_:=c0
     have c1:(wr.drewN nq).cell? ⟨bb,o+k*3+1,none⟩=_:=c1
     have c2:(wr.drewN nq).cell? ⟨bb,o+k*3+2,none⟩=_:=c2
     clear HX HW Hown w1
     generalize wr.drewN nq=W at *
     by_cases q2:d - (a:Int)<(P:Int)
     ·have HT2:=H_ (show (decide ((a:Int)≤d)&&decide (d - (a:Int)<(P:Int)))=true by rw [q1',decide_eq_true q2];rfl)
      generalize inR a P (l.take k)=acc at *
      go_wp2_with (at_builtin;go_loud (refine wpList_append_lies _ rfl (.tmp 37) (.tmp 42) 133 rfl (b+1) 137 i0 _ 3 24 Tryz.underlying133 hi hz0 hz1 hz2 rfl (by omega) _ acc.length (ens acc) rfl (own_step Hown2.out (bl_alloc B_ _)) ⟨_,0,none⟩ 1 1 [.int .i64 d,.int .i64 s,.int .i64 c] rfl rfl (World.news_of_block (heap_at_new _ _ _ (by first | rfl | simp))) (by simp [Value.oneCell']) (by omega) (by unfold maxLen;omega) (by omega) (by have:=bk_lt HX2.out;simp;omega) _ rfl ?_);intro gg cap4 w4 hown4 hg4 hat4 hlt4)
      go_roundw
      case rel=>
       refine ⟨k+1,by omega,by go_num,by rw [HT.out,HT2.out];exact ens_snoc hown4,(hg4.block b (by have:=bk_lt HX2.out;simp;omega) (fun e=>by have:=(Hown2.out.lt b e.symm).1;omega)).trans (bk_alloc HX2.out _),(bl_alloc HW2.out _).grown hg4 (bl_alloc HW2.out _).size (fun z hz=>by have:=(Hown2.out.lt z hz).1;have:=HBe.out;omega)⟩
      case measure=>simp [intOf];omega
     ·have HT2:=H_ (show (decide ((a:Int)≤d)&&decide (d - (a:Int)<(P:Int)))=false by rw [decide_eq_false q2];simp)
      go_wp2
      go_roundw
      case rel=>exact ⟨k+1,by omega,by go_num,by rw [HT.out,HT2.out];simpa using Hown2.out,HX2.out,HW2.out⟩
      case measure=>simp [intOf];omega
    ·have q1':decide ((a:Int)≤d)=false:=decide_eq_false q1
     go_quiet ((go_at_call 159;exact Calls.quiet_of_eq (hpw _)))
     go_wp2
     go_roundw
     case rel=>exact ⟨k+1,by omega,by go_num,by rw [HT.out,q1'];simpa using own_drew Hown.out nq,HX.out,below_drewN HW.out _⟩
     case measure=>simp [intOf];omega
   ·obtain rfl:k=l.length:=by omega
    have hown:=Hown.out
    rw [List.take_length] at hown
    have Hown2:=H_ hown
    have hE2:=EA.of_own (S:=fun z=>z≠b∧z<wr.heap.size) hown (fun z hz=>by have:=hown.lt z hz;omega)
    have hEc:=hE2
    obtain ⟨A2,cap2,rfl,hc2,hm2,_⟩:=hEc
    have HE2:=H_ hE2
    have hle:=inR_len l a P
    unfold maxLen at hm2
    clear hown Hown hE2
    by_cases hnil:inR a P l=[]
    ·have HR:=H_ (show cano 0 (sh (cOf l) a) = .nil from cano_none (by rw [HP.out];exact inR_nil hnil))
     rw [hnil]
     have HX3:=H_ (show wr.heap[w.heap.size]?=some (.cells #[.slice none 0 0,.int .i64 0,.int .i64 0] 70 (0,0)) from HBe.out ▸ HX.out)
     clear hnil hle
     go_wp2_with (refine wpList_store_rowTo rfl 70 (.tmp 6) (.tmp 47) rfl rfl (w.heap.size) #[.slice none 0 0,.int .i64 0,.int .i64 0] rfl rfl 70 _ (HX3.out) node_size rfl (node_one _ _ _ _ _) ?_)
     show bodyPost Tryz.prog Tryz.f155 _ _ _ _
     refine bodyPost_ret (node_res rfl _ _ w.heap.size _ _ _ _ _ rfl (setRow_heap _ _ _ _ _ _ HX3.out)) rfl ?_
     rw [HR.out]
     exact ⟨none,0,rfl,Nat.zero_le _,.nil _,bl_setRow HW.out (by omega) _⟩
    ·have HN:=H_ (inR_ne HG.out hnil)
     have HX3:=H_ (show wr.heap[w.heap.size]?=some (.cells #[.slice none 0 0,.int .i64 0,.int .i64 0] 70 (0,0)) from HBe.out ▸ HX.out)
     obtain ⟨bb,o,cap',d,s,c,e0,_,_,hbl,he,c0,c1,c2⟩:=HE2.out.at_ (i:=0) (List.length_pos_iff.2 hnil)
     injection e0 with e0 _ e2
     subst e0
     have HR:=H_ (show cano 0 (sh (cOf l) a) = .mk [] s c by
      cases hin:inR a P l with
      | nil=>exact absurd hin hnil
      | cons e r=>
       rw [hin] at he
       simp at he
       have hh:=inR_head (show inR a 1 l=e :: r by rw [show 1=P from HP.out];exact hin)
       rw [he] at hh
       show T.mk [] _ _=_
       rw [hh])
     have hlen1:0<(inR a P l).length:=List.length_pos_iff.2 hnil
     have hl0:(((inR a P l).length:Int) == 0)=false:=beq_eq_false_iff_ne.2 (by omega)
     rw [Nat.zero_mul,Nat.add_zero] at c0 c1 c2
     have u0:(0:Int)<((inR a P l).length:Int):=by omega
     have lX:=bk_lt HX3.out
     clear he e2 hnil hle HN
     generalize (inR a P l).length=nn at *
     go_upto_region 10 with fail
     obtain ⟨W,hWe⟩:∃W:World,W=wr:=⟨_,rfl⟩
     subst hWe
     refine wp_region_sp 9 87 [SP.eq (.slice (some ⟨bb,o,none⟩) nn cap2),SP.eq (.pointer (some ⟨bb,o,none⟩)),SP.eq (.pointer (some ⟨bb,o+1,none⟩)),SP.eq (.int .i64 s),SP.eq (.slice (some ⟨bb,o,none⟩) nn cap2),SP.eq (.pointer (some ⟨bb,o,none⟩)),SP.eq (.pointer (some ⟨bb,o+2,none⟩)),SP.eq (.int .i64 c),SP.eq (ndV none 0 0 s c)] (by kernel_rfl) (by kernel_rfl) rfl ?_
     simp only [List.take_succ_cons,List.take_zero,List.drop_succ_cons,List.drop_zero]
     refine rC (fun x hC hd K hK=>?_) (fun v0=>?_)
     ·go_simp
      exact hK _ _ hC B_ rfl
     simp only [ly]
     refine rC (fun x hC hd K hK=>?_) (fun v1=>?_)
     ·obtain rfl:v0=_:=hd 0 (by kernel_rfl)
      go_simp
      exact hK _ _ hC B_ rfl
     simp only [ly]
     refine rC (fun x hC hd K hK=>?_) (fun v2=>?_)
     ·obtain rfl:v1=_:=hd 1 (by kernel_rfl)
      go_simp
      exact hK _ _ hC B_ rfl
     simp only [ly]
     refine rC (fun x hC hd K hK=>?_) (fun v3=>?_)
     ·obtain rfl:v2=_:=hd 2 (by kernel_rfl)
      have hcell:=(hC.cell (p:=⟨bb,_,none⟩) hbl).trans c1
      go_simp
      exact hK _ _ hC B_ rfl
     simp only [ly]
     refine rC (fun x hC hd K hK=>?_) (fun v4=>?_)
     ·go_simp
      exact hK _ _ hC B_ rfl
     simp only [ly]
     refine rC (fun x hC hd K hK=>?_) (fun v5=>?_)
     ·obtain rfl:v4=_:=hd 4 (by kernel_rfl)
      go_simp
      exact hK _ _ hC B_ rfl
     simp only [ly]
     refine rC (fun x hC hd K hK=>?_) (fun v6=>?_)
     ·obtain rfl:v5=_:=hd 5 (by kernel_rfl)
      go_simp
      exact hK _ _ hC B_ rfl
     simp only [ly]
     refine rC (fun x hC hd K hK=>?_) (fun v7=>?_)
     ·obtain rfl:v6=_:=hd 6 (by kernel_rfl)
      have hcell:=(hC.cell (p:=⟨bb,_,none⟩) hbl).trans c2
      go_simp
      exact hK _ _ hC B_ rfl
     simp only [ly]
     refine rC (fun x hC hd K hK=>?_) (fun v8=>?_)
     ·obtain rfl:v3=_:=hd 3 (by kernel_rfl)
      obtain rfl:v7=_:=hd 7 (by kernel_rfl)
      go_simp
      exact hK _ _ hC B_ rfl
     simp only [ly]
     refine relWalk_nil ?_
     intro x hC hG
     obtain rfl:v8=_:=hG 8 (by omega)
     have HX4:=bkh HX3 hC
     have HW4:=blh HW hC
     clear hG hC c0 c1 c2
     go_wp2_with (refine wpList_store_rowTo rfl 70 (.tmp 6) (.tmp 58) rfl rfl (w.heap.size) #[.slice none 0 0,.int .i64 s,.int .i64 c] rfl rfl 70 _ (HX4.out) node_size rfl (node_one _ _ _ _ _) ?_)
     show bodyPost Tryz.prog Tryz.f155 _ _ _ _
     refine bodyPost_ret (node_res rfl _ _ w.heap.size _ _ _ _ _ rfl (setRow_heap _ _ _ _ _ _ HX4.out)) rfl ?_
     rw [HR.out]
     exact ⟨none,0,rfl,Nat.zero_le _,.nil _,bl_setRow HW4.out (by omega) _⟩
 | succ h ih=>
  intro l v a S Sv w hh hg hlen hat hE hS
  obtain ⟨A,cap,rfl,hcap,hcm,_⟩:=id hE
  have HE:=H_ (fun w' (hb:Below w.heap.size w w')=>hE.step hb)
  obtain ⟨i0,hi,hz0,hz1,hz2⟩:=info_parts entry_info
  obtain ⟨b,hb⟩:∃b,b=w.heap.size:=⟨_,rfl⟩
  have HBe:=H_ hb
  have HG:=H_ hg
  have HSS:=H_ hS
  clear hE hb hg hS
  unfold maxLen at hcm
  have hpw:=fun w=>power_w (h+1) w (by omega)
  generalize hP:4 ^ (h+1)=P at *
  have HP:=H_ hP
  clear hP
  rw [show ((h+1:Nat):Int)=(h:Int)+1 by omega] at hpw ⊢
  have hz:((h:Int)+1 == 0)=false:=beq_eq_false_iff_ne.2 (by omega)
  go_enter Tryz.func155,Tryz.ntmps155
  go_wp2
  go_loopw [7,8] (fun s7 s8 wx=>∃k:Nat,k≤l.length∧s8 = .int .i64 k∧wx.ownsRow (b+1) 137 3 s7 (inR a P (l.take k)).length (ens (inR a P (l.take k)))∧wx.heap[b]?=some (.cells #[.slice none 0 0,.int .i64 0,.int .i64 0] 70 (0,0))∧Below w.heap.size w wx) (fun _ s8 _=>l.length - (intOf s8).toNat)
  case atStart=>exact ⟨0,by omega,rfl,World.ownsRow_nil _ _ _ _,by rw [HBe.out];exact heap_alloc_at _ _,bl_alloc B_ _⟩
  case round=>
   obtain ⟨k,hk,rfl,hown,hX,hW⟩:=hrel
   have Hown:=H_ hown
   have HX:=H_ hX
   have HW:=H_ hW
   clear hown hX hW
   by_cases hlt:k<l.length
   ·obtain ⟨bb,o,cap',d,s,c,e0,_,_,hbl,he,c0,c1,c2⟩:=(HE.out _ HW.out).at_ hlt
    injection e0 with e0 _ e2
    subst e0
    obtain ⟨g1,g2,g3⟩:=HG.out _ (List.mem_of_getElem? he)
    simp only at g1 g2
    have HT:=H_ (inR_take (a:=a) (p:=P) he)
    have hll:=inR_len (l.take k) a P
    rw [List.length_take,Nat.min_eq_left hk] at hll
    have k0:(0:Int)≤(k:Int):=by omega
    have k1:(k:Int)<(l.length:Int):=by omega
    have hlb:=bk_lt HX.out
    have hle:=HW.out.size
    have w1:=w64 (x:=d - (a:Int)) (by omega)
    clear he e2 g3
    go_upto_region 5 with fail
    by_cases q1:(a:Int)≤d
    ·have q1':decide ((a:Int)≤d)=true:=decide_eq_true q1
     go_quiet ((go_at_call 159;exact Calls.quiet_of_eq (hpw _)))
     have HX2:=H_ (show (wr.drewN nq).heap[b]?=_ from HX.out)
     have HW2:=H_ (below_drewN HW.out nq)
     have Hown2:=H_ (own_drew Hown.out nq)
     have hbl2:bb<(wr.drewN nq).heap.size:=hbl
     have c0:(wr.drewN nq).cell? ⟨bb,o+k*3,none⟩=_:=c0
     have c1:(wr.drewN nq).cell? ⟨bb,o+k*3+1,none⟩=_:=c1
     have c2:(wr.drewN nq).cell? ⟨bb,o+k*3+2,none⟩=_:=c2
     clear HX HW Hown w1
     generalize wr.drewN nq=W at *
     by_cases q2:d - (a:Int)<(P:Int)
     ·have HT2:=H_ (show (decide ((a:Int)≤d)&&decide (d - (a:Int)<(P:Int)))=true by rw [q1',decide_eq_true q2];rfl)
      generalize inR a P (l.take k)=acc at *
      go_wp2_with (at_builtin;go_loud (refine wpList_append_lies _ rfl (.tmp 37) (.tmp 42) 133 rfl (b+1) 137 i0 _ 3 24 Tryz.underlying133 hi hz0 hz1 hz2 rfl (by omega) _ acc.length (ens acc) rfl (own_step Hown2.out (bl_alloc B_ _)) ⟨_,0,none⟩ 1 1 [.int .i64 d,.int .i64 s,.int .i64 c] rfl rfl (World.news_of_block (heap_at_new _ _ _ (by first | rfl | simp))) (by simp [Value.oneCell']) (by omega) (by unfold maxLen;omega) (by omega) (by have:=bk_lt HX2.out;simp;omega) _ rfl ?_);intro gg cap4 w4 hown4 hg4 hat4 hlt4)
      go_roundw
      case rel=>
       refine ⟨k+1,by omega,by go_num,by rw [HT.out,HT2.out];exact ens_snoc hown4,(hg4.block b (by have:=bk_lt HX2.out;simp;omega) (fun e=>by have:=(Hown2.out.lt b e.symm).1;omega)).trans (bk_alloc HX2.out _),(bl_alloc HW2.out _).grown hg4 (bl_alloc HW2.out _).size (fun z hz=>by have:=(Hown2.out.lt z hz).1;have:=HBe.out;omega)⟩
      case measure=>simp [intOf];omega
     ·have HT2:=H_ (show (decide ((a:Int)≤d)&&decide (d - (a:Int)<(P:Int)))=false by rw [decide_eq_false q2];simp)
      go_wp2
      go_roundw
      case rel=>exact ⟨k+1,by omega,by go_num,by rw [HT.out,HT2.out];simpa using Hown2.out,HX2.out,HW2.out⟩
      case measure=>simp [intOf];omega
    ·have q1':decide ((a:Int)≤d)=false:=decide_eq_false q1
     go_quiet ((go_at_call 159;exact Calls.quiet_of_eq (hpw _)))
     go_wp2
     go_roundw
     case rel=>exact ⟨k+1,by omega,by go_num,by rw [HT.out,q1'];simpa using own_drew Hown.out nq,HX.out,below_drewN HW.out _⟩
     case measure=>simp [intOf];omega
   ·obtain rfl:k=l.length:=by omega
    have hown:=Hown.out
    rw [List.take_length] at hown
    have Hown2:=H_ hown
    have hE2:=EA.of_own (S:=fun z=>z≠b∧z<wr.heap.size) hown (fun z hz=>by have:=hown.lt z hz;omega)
    have hEc:=hE2
    obtain ⟨A2,cap2,rfl,hc2,hm2,_⟩:=hEc
    have HE2:=H_ hE2
    have hle:=inR_len l a P
    unfold maxLen at hm2
    clear hown Hown hE2
    by_cases hnil:inR a P l=[]
    ·have HR:=H_ (show cano (h+1) (sh (cOf l) a) = .nil from cano_none (by rw [HP.out];exact inR_nil hnil))
     rw [hnil]
     have HX3:=H_ (show wr.heap[w.heap.size]?=some (.cells #[.slice none 0 0,.int .i64 0,.int .i64 0] 70 (0,0)) from HBe.out ▸ HX.out)
     clear hnil hle
     go_wp2_with (refine wpList_store_rowTo rfl 70 (.tmp 6) (.tmp 47) rfl rfl (w.heap.size) #[.slice none 0 0,.int .i64 0,.int .i64 0] rfl rfl 70 _ (HX3.out) node_size rfl (node_one _ _ _ _ _) ?_)
     show bodyPost Tryz.prog Tryz.f155 _ _ _ _
     refine bodyPost_ret (node_res rfl _ _ w.heap.size _ _ _ _ _ rfl (setRow_heap _ _ _ _ _ _ HX3.out)) rfl ?_
     rw [HR.out]
     exact ⟨none,0,rfl,Nat.zero_le _,.nil _,bl_setRow HW.out (by omega) _⟩
    ·have HN:=H_ (inR_ne HG.out hnil)
     have HX3:=H_ (show wr.heap[w.heap.size]?=some (.cells #[.slice none 0 0,.int .i64 0,.int .i64 0] 70 (0,0)) from HBe.out ▸ HX.out)
     have hlen1:0<(inR a P l).length:=List.length_pos_iff.2 hnil
     have hl0:(((inR a P l).length:Int) == 0)=false:=beq_eq_false_iff_ne.2 (by omega)
     have hP4:P=4*4 ^ h:=by rw [←HP.out,Nat.pow_succ];omega
     have hp4:4 ^ h≤64:=show 4 ^ h≤4 ^ 3 from Nat.pow_le_pow_right (by omega) (by omega)
     have HFIN:=H_ (show cano (h+1) (sh (cOf l) a) = .mk (kidsC h (sh (cOf l) a)) 0 (orK (kidsC h (sh (cOf l) a))) by rw [cano_succ,HP.out,HN.out];rfl)
     have hkid:=fun (i:Nat) (hi:i<4) S' Sx w' (hE:EA w' Sx (.slice A2 (inR a P l).length cap2) (inR a P l)) (hS':∀z,w'.heap.size≤z→S' z)=>ih (inR a P l) (.slice A2 (inR a P l).length cap2) (a+i*4 ^ h) S' Sx w' (by omega) (HG.out.inR a P) (by omega) (by
      have:=Nat.mul_le_mul_right (4 ^ h) (show i+1≤4 by omega)
      rw [Nat.add_mul,Nat.one_mul] at this
      omega) hE hS'
     have HSUB:=H_ (fun (i:Nat) (hi:i<4)=>show cano h (sh (cOf (inR a P l)) (a+i*4 ^ h))=cano h (sh (sh (cOf l) a) (i*4 ^ h)) by
      rw [sh_sh]
      refine inR_sub ?_
      have:=Nat.mul_le_mul_right (4 ^ h) (show i+1≤4 by omega)
      rw [Nat.add_mul,Nat.one_mul] at this
      omega)
     have hpw2:=fun w=>power_w h w (by omega)
     have HQ:=H_ (fun (i:Nat) (hi:i<4)=>show i*4 ^ h+4 ^ h≤4*4 ^ h by
      have:=Nat.mul_le_mul_right (4 ^ h) (show i+1≤4 by omega)
      rw [Nat.add_mul,Nat.one_mul] at this
      exact this)
     obtain ⟨j0,hj,hy0,hy1,hy2⟩:=info_parts node_info
     have HXb:=H_ HX.out
     have hwb:=HW.out.size
     clear hnil hle HN
     generalize inR a P l=L' at *
     generalize sh (cOf l) a=C at *
     clear hpw ih HG HE HP HX3
     go_upto_region 11 with fail
     go_cut [6,9] (fun s6 s9 wx=>∃g,s6 = .pointer (some ⟨b,0,none⟩)∧s9 = .pointer (some ⟨g,0,none⟩)∧b<g∧wx.heap[b]?=some (.cells #[.slice none 0 0,.int .i64 0,.int .i64 0] 70 (0,0))∧wx.heap[g]?=some (.cells #[.slice none 0 0,.int .i64 0,.int .i64 0] 70 (0,0))∧EA wx (fun z=>z≠b∧z<g) (.slice A2 L'.length cap2) L'∧Below w.heap.size w wx)
     case first=>
      go_wp2
      go_meet
      case rel=>exact ⟨_,by rw [HBe.out],rfl,bk_lt HXb.out,bk_alloc HXb.out _,heap_alloc_new _ _,HE2.out.step (bl_alloc B_ _),bl_alloc HW.out _⟩
     case rest=>
      obtain ⟨g,rfl,rfl,hbg,hX,hN,hE,hW⟩:=hcut
      have HX4:=H_ hX
      have HN4:=H_ hN
      have HE4:=H_ hE
      have HW4:=H_ hW
      have hng:¬b=g:=by omega
      clear hX hN hE hW HXb HE2 HX HW
      go_wp2
      go_loopw [10] (fun s10 wx=>∃(i:Nat) (u:Value) (xs:List Value),i≤4∧s10 = .int .i64 i∧wx.heap[b]?=some (.cells #[.slice none 0 0,.int .i64 0,.int .i64 0] 70 (0,0))∧wx.heap[g]?=some (.cells #[u,.int .i64 0,.int .i64 (orK ((kidsC h C).take i))] 70 (0,0))∧EA wx (fun z=>z≠b∧z<g) (.slice A2 L'.length cap2) L'∧NO wx (g+1) (fun z=>S z∧z≠b∧z≠g) u ((kidsC h C).take i) xs∧Below w.heap.size w wx) (fun s10 _=>4 - (intOf s10).toNat)
      case atStart=>exact ⟨0,_,[],by omega,rfl,HX4.out,HN4.out,HE4.out,NO.nil _ _ _,HW4.out⟩
      case round=>
       clear HX4 HN4 HE4 HW4
       obtain ⟨i,u,xs,hi4,rfl,hX,hN,hE,hNO,hW⟩:=hrel
       have HX:=H_ hX
       have HN:=H_ hN
       have HE:=H_ hE
       have HNO:=H_ hNO
       have HW:=H_ hW
       have lg:=bk_lt hN
       have lbw:=hW.size
       clear hX hN hE hNO hW
       by_cases hlt:i<4
       ·have hik:=kidsC_at (h:=h) (c:=C) hlt
        have HOR:=H_ (orK_take hik)
        have Hik:=H_ hik
        have hown:=HNO.out.1
        rw [List.length_take,kidsC_len,Nat.min_eq_left hi4] at hown
        have Hown:=H_ hown
        have hq:=HQ.out i hlt
        have HS2:=H_ (fun z (hz:wr.heap.size≤z)=>show (S z∧z≠b∧z≠g)∧u.ownBlock≠some z from ⟨⟨HSS.out z (by omega),by omega,by omega⟩,fun e=>by have:=(hown.lt z e).2;omega⟩)
        have hk1:=fun w' hE hS'=>hkid i hlt (fun z=>(S z∧z≠b∧z≠g)∧u.ownBlock≠some z) (fun z=>z≠b∧z<g) w' hE hS'
        rw [HSUB.out i hlt] at hk1
        obtain ⟨q,hqe⟩:∃q,i*4 ^ h=q:=⟨_,rfl⟩
        have hmul:IntKind.i64.wrap ((i:Int)*((4 ^ h:Nat):Int))=(q:Int):=by rw [←Int.natCast_mul,hqe];exact w64 (by omega)
        have hmul2:(i:Int)*((4 ^ h:Nat):Int)=(q:Int):=by rw [←Int.natCast_mul,hqe]
        rw [hqe] at hk1 hq HOR Hik
        rw [show ((a+q:Nat):Int)=(a:Int)+(q:Int) by omega] at hk1
        have hh1:IntKind.i64.wrap ((h:Int)+1 - 1)=(h:Int):=by rw [show (h:Int)+1 - 1=(h:Int) by omega];exact w64 (by omega)
        have hh2:(h:Int)+1 - 1=(h:Int):=by omega
        have aq:IntKind.i64.wrap ((a:Int)+(q:Int))=(a:Int)+(q:Int):=w64 (by omega)
        have HKM:=H_ (cano_ml h (sh C q))
        have a0:(0:Int)≤(a:Int)+(q:Int):=by omega
        have a1:(a:Int)+(q:Int)≤256:=by omega
        clear hik hown hqe hq
        generalize 4 ^ h=p at *
        generalize cano h (sh C q)=k at *
        obtain ⟨x0,x1,x2⟩:=cs3 HN.out
        go_upto_region 16 with (first
         | (go_at_call 159;(with_reducible refine CM (hpw2 _) ?_);rintro e w1 ⟨rfl,rfl⟩)
         | (go_at_call 155;(with_reducible refine CM (hk1 _ HE.out HS2.out) ?_);rintro e w2 ⟨A3,cap3,rfl,hc3,hk3,hb2⟩;have HX5:=bkh HX hb2;have HN5:=bkh HN hb2;have HE5:=H_ (HE.out.step hb2);have HNO5:=H_ (HNO.out.step hb2);have HW5:=blh HW hb2;have Hown5:=H_ (own_step Hown.out hb2);have HK5:=H_ hk3;have HC3:=H_ hc3;have lb2:=hb2.size;have lg2:=bk_lt HN5.out;clear hk3 x0 x1 x2 hb2;obtain ⟨x0,x1,x2⟩:=cs3 HN5.out))
        go_cut [11] (fun s11 wx=>∃(Z:Nat) (A3:Option Addr) (cap3:Nat) (u':Value) (xs':List Value),s11 = .pointer (some ⟨Z,0,none⟩)∧Z≠g∧wx.heap[Z]?=some (.cells #[.slice A3 k.kids.length cap3,.int .i64 k.val,.int .i64 k.marks] 70 (0,0))∧wx.heap[b]?=some (.cells #[.slice none 0 0,.int .i64 0,.int .i64 0] 70 (0,0))∧wx.heap[g]?=some (.cells #[u',.int .i64 0,.int .i64 (orK ((kidsC h C).take i))] 70 (0,0))∧EA wx (fun z=>z≠b∧z<g) (.slice A2 L'.length cap2) L'∧NO wx (g+1) (fun z=>S z∧z≠b∧z≠g) u' ((kidsC h C).take (i+1)) xs'∧Below w.heap.size w wx)
        case first=>
         go_wp2_with ((at_builtin;go_loud (refine wpList_append_lies _ rfl (.tmp 75) (.tmp 77) 68 rfl (g+1) 70 j0 _ 3 40 Tryz.underlying68 hj hy0 hy1 hy2 rfl (by omega) u i xs rfl (own_step Hown5.out (bl_alloc (bl_alloc B_ _) _)) ⟨_,0,none⟩ 1 1 [.slice A3 k.kids.length cap3,.int .i64 k.val,.int .i64 k.marks] rfl rfl (World.news_of_block (heap_at_new _ _ _ (by first | rfl | simp))) (by simp [Value.oneCell']) (by omega) (by unfold maxLen;omega) (by omega) (by simp;omega) _ rfl ?_);intro gg cap4 w4 hown4 hg4 hat4 hlt4;have HN6:=H_ ((hg4.block g (by simp;omega) (fun e=>by have:=(Hown5.out.lt g e.symm).1;omega)).trans (bk_alloc (bk_alloc HN5.out _) _));have f0:=free_at HN6.out 0;have y0:=cs1 HN6.out))
         go_meet
         case rel=>
          have hNO4:=((HNO5.out.alloc (.cells #[.slice A3 k.kids.length cap3,.int .i64 k.val,.int .i64 k.marks] 70)).alloc (.cells #[.slice A3 k.kids.length cap3,.int .i64 k.val,.int .i64 k.marks] 70)).snoc k A3 cap3 HKM.out HC3.out ((HK5.out.alloc _).alloc _) (by rw [List.length_take,kidsC_len,Nat.min_eq_left hi4];exact hown4) hg4 hat4
          have hNO5:=hNO4.set ⟨g,0,none⟩ (.slice (some ⟨gg,0,none⟩) (i+1) cap4) (by simp) (by simp)
          refine ⟨w2.heap.size,A3,cap3,.slice (some ⟨gg,0,none⟩) (i+1) cap4,xs ++ [.slice A3 k.kids.length cap3,.int .i64 k.val,.int .i64 k.marks],rfl,by omega,?_,?_,?_,?_,?_,?_⟩
          ·exact set_bk ((hg4.block w2.heap.size (by simp;omega) (fun e=>by have:=(Hown5.out.lt w2.heap.size e.symm).2;omega)).trans (bk_alloc (heap_alloc_new _ _) _)) _ _ (by simp only;omega)
          ·exact set_bk ((hg4.block b (by simp;omega) (fun e=>by have:=(Hown5.out.lt b e.symm).1;omega)).trans (bk_alloc (bk_alloc HX5.out _) _)) _ _ (by simpa using hng)
          ·simpa using set_same (i:=0) HN6.out (.slice (some ⟨gg,0,none⟩) (i+1) cap4)
          ·refine ((HE5.out.step (bl_alloc (bl_alloc B_ (.cells #[.slice A3 k.kids.length cap3,.int .i64 k.val,.int .i64 k.marks] 70)) (.cells #[.slice A3 k.kids.length cap3,.int .i64 k.val,.int .i64 k.marks] 70))).kept hg4.size (fun z hz hlt=>hg4.block z hlt (fun e=>by have:=(Hown5.out.lt z e.symm).1;omega))).kept (by simp [World.setCell]) (fun z hz hlt=>Below.heap_setCell _ _ _ z (by simp only;omega))
          ·rw [List.take_add_one,Hik.out,Option.toList_some]
           exact hNO5
          ·exact ((bl_alloc (bl_alloc HW5.out _) _).grown hg4 (bl_alloc (bl_alloc HW5.out _) _).size (fun z hz=>by have:=(Hown5.out.lt z hz).1;have:=HBe.out;omega)).setCell (by simp only;have:=HBe.out;omega) _
        case rest=>
         clear HX5 HN5 HE5 HNO5 HW5 Hown5 HK5 HC3 x0 x1 x2
         obtain ⟨Z,A4,cap4,u',xs',rfl,hZg,hZ,hX,hN,hE,hNO,hW⟩:=hcut
         have HX5:=H_ hX
         have HN5:=H_ hN
         have HE5:=H_ hE
         have HNO5:=H_ hNO
         have HW5:=H_ hW
         have z2:=cells_at hZ 2
         have f2:=free_at hN 2
         have hne1:¬Z=g:=hZg
         have hne2:¬g=Z:=fun e=>hZg e.symm
         obtain ⟨x0,x1,x2⟩:=cs3 hN
         simp only [List.getElem?_toArray,List.getElem?_cons_zero,List.getElem?_cons_succ] at z2
         clear hX hN hE hNO hW hZ hZg
         go_wp2
         go_roundw
         case rel=>
          refine ⟨i+1,u',xs',by omega,by go_num,set_bk HX5.out _ _ (by simpa using hng),?_,?_,HNO5.out.set _ _ (by simp) (by simp),HW5.out.setCell (by simp only;have:=HBe.out;omega) _⟩
          ·rw [HOR.out]
           simpa using set_same (i:=2) HN5.out (.int .i64 (orI (orK ((kidsC h C).take i)) k.marks))
          ·exact HE5.out.kept (by simp [World.setCell]) (fun z hz hlt=>Below.heap_setCell _ _ _ z (by simp only;omega))
         case measure=>simp [intOf];omega
       ·obtain rfl:i=4:=by omega
        have hNO:=HNO.out
        rw [show (kidsC h C).take 4=kidsC h C from List.take_of_length_le (by rw [kidsC_len];omega)] at hNO HN
        obtain ⟨A4,cap4,rfl,hcap4,hk4⟩:=hNO.nk (S':=fun z=>S z∧z≠b) (fun z hz=>⟨hz.1,hz.2.1⟩) (fun z hz=>⟨HSS.out z (by have:=HBe.out;omega),by omega⟩)
        rw [kidsC_len] at hcap4
        rw [kidsC_len] at HN
        have HK4:=H_ hk4
        clear hNO hk4
        obtain ⟨x0,x1,x2⟩:=cs3 HN.out
        go_wp2_with (refine wpList_store_rowTo rfl 70 (.tmp 6) (.tmp 86) rfl rfl (b) #[.slice A4 4 cap4,.int .i64 0,.int .i64 (orK (kidsC h C))] rfl rfl 70 _ (HX.out) node_size rfl (node_one _ _ _ _ _) ?_)
        show bodyPost Tryz.prog Tryz.f155 _ _ _ _
        refine bodyPost_ret (node_res rfl _ _ b _ _ _ _ _ rfl (setRow_heap _ _ _ _ _ _ HX.out)) rfl ?_
        rw [HFIN.out]
        exact ⟨A4,cap4,by rw [show (T.mk (kidsC h C) 0 (orK (kidsC h C))).kids.length=4 from kidsC_len _ _];rfl,by rw [show (T.mk (kidsC h C) 0 (orK (kidsC h C))).kids.length=4 from kidsC_len _ _];exact hcap4,(HK4.out.kept (by simp [World.setRow]) (fun z hz hlt=>setRow_other _ _ _ _ hz.2)).weak fun z _ hz=>hz.1,bl_setRow HW.out (by rw [HBe.out];omega) _⟩
end
section
theorem made_ok {l:List En} {t:Nat} (hg:Good l) (h1:∀e ∈ l,e.1≤(t:Int)) (h2:t=0∨∃e ∈ l,e.1=(t:Int)) (ht:t<256):TreeOk (hf t) (cOf l):=by
 have h4:hf t≤4:=by unfold hf;(repeat' split) <;> omega
 have hlt:t<4 ^ hf t:=(hf_le ht h4).1 (Nat.le_refl _)
 refine ⟨h4,fun i hi=>lkP_nil_of fun e he=>?_,?_⟩
 ·have:=h1 e he;omega
 ·rcases h2 with rfl | h2
  ·exact .inl rfl
  ·by_cases h0:hf t=0
   ·exact .inl h0
   ·refine .inr ⟨t,?_,lkP_ne hg h2⟩
    apply Classical.byContradiction
    intro hc
    have:=(hf_le (i:=t) (h:=hf t - 1) ht (by omega)).2 (by omega)
    omega
theorem made_w (l:List En) (v:Value) (S Sv:Nat→Prop) (w:World) (hg:Good l) (hlen:l.length≤1000) (hE:EA w Sv v l) (hS:∀b,w.heap.size≤b→S b) :
  Calls Tryz.prog 121 #[v] w (RetTr (cOf l) S w):=by
 obtain ⟨A,cap,rfl,hcap,hcm,_⟩:=id hE
 have HE:=H_ (fun w' (hb:Below w.heap.size w w')=>hE.step hb)
 have HG:=H_ hg
 have HSS:=H_ hS
 have HR:=H_ (heap_alloc_at w (.cells #[.int .i64 0,.slice none 0 0,.int .i64 0,.int .i64 0] 72))
 have HW:=H_ (bl_alloc (Below.refl w.heap.size w) (.cells #[.int .i64 0,.slice none 0 0,.int .i64 0,.int .i64 0] 72))
 clear hE hg hS
 unfold maxLen at hcm
 go_enter Tryz.func121,Tryz.ntmps121
 go_wp2
 go_loopw [3,4] (fun s3 s4 wx=>∃(k t:Nat),k≤l.length∧t<256∧s4 = .int .i64 k∧s3 = .int .i64 t∧(∀(j:Nat) e,j<k→l[j]?=some e→e.1≤(t:Int))∧(t=0∨∃e ∈ l,e.1=(t:Int))∧wx.heap[w.heap.size]?=some (.cells #[.int .i64 0,.slice none 0 0,.int .i64 0,.int .i64 0] 72 (0,0))∧Below w.heap.size w wx) (fun _ s4 _=>l.length - (intOf s4).toNat)
 case atStart=>exact ⟨0,0,by omega,by omega,rfl,rfl,fun j e h=>by omega,.inl rfl,HR.out,HW.out⟩
 case round=>
  clear HR HW
  obtain ⟨k,t,hk,ht,rfl,rfl,h1,h2,hR,hW⟩:=hrel
  have H1:=H_ h1
  have H2:=H_ h2
  have HR:=H_ hR
  have HW:=H_ hW
  clear h1 h2 hR hW
  by_cases hlt:k<l.length
  ·obtain ⟨bb,o,cap',d,s,c,e0,_,_,hbl,he,c0,c1,c2⟩:=(HE.out _ HW.out).at_ hlt
   injection e0 with e0 _ e2
   subst e0
   obtain ⟨g1,g2,g3⟩:=HG.out _ (List.mem_of_getElem? he)
   have HD:=H_ he
   simp only at g1 g2
   have k0:(0:Int)≤(k:Int):=by omega
   have k1:(k:Int)<(l.length:Int):=by omega
   clear he e2 g3 c1 c2
   by_cases q:(t:Int)<d
   ·obtain ⟨dn,rfl⟩:=Int.eq_ofNat_of_zero_le g1
    have q2:t<dn:=by omega
    have q3:t≤dn:=by omega
    have q4:max t dn=dn:=by omega
    have q5:max (t:Int) (dn:Int)=(dn:Int):=by omega
    go_wp2
    go_roundw
    case rel=>
     refine ⟨k+1,dn,by omega,by omega,by go_num,rfl,fun j e hj hje=>?_,.inr ⟨_,List.mem_of_getElem? HD.out,rfl⟩,HR.out,HW.out⟩
     by_cases hjk:j=k
     ·subst hjk
      rw [HD.out] at hje
      injection hje with hje
      rw [←hje]
      exact Int.le_refl _
     ·have:=H1.out j e (by omega) hje;omega
    case measure=>simp [intOf];omega
   ·obtain ⟨dn,rfl⟩:=Int.eq_ofNat_of_zero_le g1
    have q2:¬t<dn:=by omega
    have q3:dn≤t:=by omega
    have q4:max t dn=t:=by omega
    have q5:max (t:Int) (dn:Int)=(t:Int):=by omega
    go_wp2
    go_roundw
    case rel=>
     refine ⟨k+1,t,by omega,by omega,by go_num,rfl,fun j e hj hje=>?_,H2.out,HR.out,HW.out⟩
     by_cases hjk:j=k
     ·subst hjk
      rw [HD.out] at hje
      injection hje with hje
      rw [←hje]
      show (dn:Int)≤_
      omega
     ·exact H1.out j e (by omega) hje
    case measure=>simp [intOf];omega
  ·obtain rfl:k=l.length:=by omega
   have HOK:=H_ (made_ok HG.out (fun e he=>by
    obtain ⟨j,hj⟩:=List.getElem?_of_mem he
    exact H1.out j e (g_l hj) hj) H2.out ht)
   have h4:=HOK.out.1
   have hp4:4 ^ hf t≤256:=show 4 ^ hf t≤4 ^ 4 from Nat.pow_le_pow_right (by omega) h4
   have lR:=bk_lt HR.out
   have lW:=HW.out.size
   have hno:=fun w' (hb:Below wr.heap.size wr w')=>node_w (hf t) l (.slice A l.length cap) 0 (fun z=>S z∧z≠w.heap.size) Sv w' h4 HG.out hlen (by omega) (HE.out _ (bl_step HW.out hb)) (fun z hz=>⟨HSS.out z (by have:=hb.size;omega),by have:=hb.size;omega⟩)
   rw [sh_zero] at hno
   have hhf:=fun w=>heightFor_w t w ht
   generalize hf t=H at *
   go_wp2_with (first
    | (go_at_call 154;(with_reducible refine CM (hhf _) ?_);rintro e w1 ⟨rfl,rfl⟩)
    | (go_at_call 155;(with_reducible refine CM (hno _ B_) ?_);rintro e w2 ⟨A',cap',rfl,hc',hk',hb2⟩;have HR2:=bkh HR hb2;have HW2:=blh HW hb2;have HK2:=H_ hk';clear hk')
    | (refine wpList_store_rowTo rfl 72 (.tmp 2) (.tmp 25) rfl rfl (w.heap.size) #[.int .i64 (H:Int),.slice A' (cano H (cOf l)).kids.length cap',.int .i64 (cano H (cOf l)).val,.int .i64 (cano H (cOf l)).marks] rfl rfl 72 _ (HR2.out) tree_size rfl (tree_one _ _ _ _ _ _) ?_))
   show bodyPost Tryz.prog Tryz.f121 _ _ _ _
   refine bodyPost_ret (tree_res rfl _ _ w.heap.size _ _ _ _ _ _ rfl (setRow_heap _ _ _ _ _ _ HR2.out)) rfl ?_
   exact ⟨H,A',cap',rfl,HOK.out,hc',(HK2.out.kept (by simp [World.setRow]) (fun z hz _=>setRow_other _ _ _ _ hz.2)).weak fun _ _ h=>h.1,bl_setRow HW2.out (by omega) _⟩
end
end Go.Proofs.YthhekebemmckcaaGreatDoor
