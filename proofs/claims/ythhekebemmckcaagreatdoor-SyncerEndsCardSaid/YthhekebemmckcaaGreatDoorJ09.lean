/-
  Lemmas and contracts for the laws of synchronisations (layer 43), part 9; several texts joined by a program.
-/
import Derived.Test.YthhekebemmckcaaGreatDoorJ01
import Derived.Test.YthhekebemmckcaaGreatDoorJ08
namespace Go.Proofs.YthhekebemmckcaaGreatDoor
set_option linter.unusedVariables false
set_option linter.unusedSimpArgs false
set_option maxRecDepth 100000
set_option maxHeartbeats 16000000
open Go.RowKit
section
theorem cOf_ents {n:Nat} {c:Cn} (hz:∀i,n≤i→c i=(0,0)):cOf (ents 0 n c)=c:=by
 funext i
 show lkP (ents 0 n c) (i:Int)=c i
 rw [lkP_ents hz,if_pos (by omega),Int.toNat_natCast]
theorem good_ents {n:Nat} {c:Cn} (hn:n≤256):Good (ents 0 n c):=fun e he=>by
 obtain ⟨j,hj,hne,rfl⟩:=mem_ents.1 he
 exact ⟨by show (0:Int)≤((0+j:Nat):Int);omega,by show ((0+j:Nat):Int)<256;omega,hne⟩
def outP (l:List En) (i:Int):List En:=l.filter (fun e=>e.1 != i)
theorem outP_take {l:List En} {i:Int} {k:Nat} {e:En} (h:l[k]?=some e):outP (l.take (k+1)) i=outP (l.take k) i ++ if e.1 != i then [e] else []:=by
 unfold outP
 rw [List.take_add_one,h,Option.toList_some,List.filter_append,List.filter_cons,List.filter_nil]
theorem lkP_out {l:List En} {i j:Int}:lkP (outP l i) j=if j=i then (0,0) else lkP l j:=by
 by_cases h:j=i
 ·subst h
  rw [if_pos rfl]
  exact lkP_nil_of fun e he=>by
   have:=(List.mem_filter.1 he).2
   simpa using this
 ·rw [if_neg h]
  unfold lkP outP
  rw [List.find?_filter]
  congr 2
  funext e
  by_cases he:e.1=j
  ·subst he;simp [h]
  ·have:(e.1 == j)=false:=beq_eq_false_iff_ne.2 he
   rw [this]
   simp
theorem lkP_app {l:List En} {e:En} {j:Int}:lkP (l ++ [e]) j=if (l.find? (fun x=>x.1 == j)).isSome then lkP l j else if e.1=j then e.2 else (0,0):=by
 unfold lkP
 rw [List.find?_append]
 cases l.find? (fun x=>x.1 == j) with
 | some x=>rfl
 | none=>
  simp only [Option.none_or,Option.isSome_none,List.find?_singleton]
  by_cases h:e.1=j
  ·simp [h]
  ·simp [h]
theorem out_find {l:List En} {i:Int}:(outP l i).find? (fun x=>x.1 == i)=none:=by
 rw [List.find?_eq_none]
 intro e he
 have:=(List.mem_filter.1 he).2
 simpa using this
theorem cOf_set0 {l:List En} {j:Nat}:cOf (outP l j)=upd (cOf l) j (0,0):=by
 funext k
 show lkP (outP l j) (k:Int)=if k=j then (0,0) else lkP l (k:Int)
 rw [lkP_out]
 by_cases h:k=j
 ·subst h;simp
 ·rw [if_neg h,if_neg (by omega)]
theorem cOf_set1 {l:List En} {j:Nat} {y:Int}:cOf (outP l j ++ [((j:Int),y,0)])=upd (cOf l) j (y,0):=by
 funext k
 show lkP (outP l j ++ [((j:Int),y,0)]) (k:Int)=if k=j then (y,0) else lkP l (k:Int)
 rw [lkP_app]
 by_cases h:k=j
 ·subst h
  rw [out_find]
  simp
 ·rw [if_neg (show ¬(j:Int)=(k:Int) by omega),if_neg h]
  have h2:=lkP_out (l:=l) (i:=(j:Int)) (j:=(k:Int))
  rw [if_neg (by omega)] at h2
  rw [←h2]
  split
  ·rfl
  ·next hn=>
   unfold lkP
   rw [Option.not_isSome_iff_eq_none.1 hn]
theorem good_out {l:List En} (hg:Good l) (i:Int):Good (outP l i):=fun e he=>hg e (List.mem_filter.1 he).1
theorem good_app {l:List En} {e:En} (hg:Good l) (h:0≤e.1∧e.1<256∧e.2≠(0,0)):Good (l ++ [e]):=fun x hx=>by
 rcases List.mem_append.1 hx with hx | hx
 ·exact hg x hx
 ·simp at hx;subst hx;exact h
theorem outP_len (l:List En) (i:Int):(outP l i).length≤l.length:=List.length_filter_le _ _
theorem rSet_w (h:Nat) (c:Cn) (A:Option Addr) (cap:Nat) (S:Nat→Prop) (i y:Int) (w:World) (hl:leafy c) (ht:TreeOk h c) (hcap:(cano h c).kids.length≤cap) (hk:NK w S A (cano h c).kids) (hS:∀b,w.heap.size≤b→S b) :
  Calls Tryz.prog 71 #[trV h A (cano h c).kids.length cap (cano h c).val (cano h c).marks,.int .i64 i,.int .i64 y] w (RetTE (setR c i y).1 (setR c i y).2 S w):=by
 have h4:=ht.1
 have hp:4 ^ h≤256:=show 4 ^ h≤4 ^ 4 from Nat.pow_le_pow_right (by omega) h4
 have HG:=H_ (good_ents (c:=c) hp)
 have HCO:=H_ (cOf_ents ht.2.1)
 have hel:=ents_len 0 (4 ^ h) c
 have hva:=fun w' (hb:Below w.heap.size w w')=>rValid_w h (cano h c) A cap S w' (cano_ml _ _) hcap (hk.step hb)
 rw [valid_of hl ht] at hva
 have hen:=fun w' (hb:Below w.heap.size w w')=>rEntries_w h c A cap S w' hl ht hcap (hk.step hb)
 obtain ⟨n,hn⟩:∃n,(cano h c).kids.length=n:=⟨_,rfl⟩
 obtain ⟨v,hv⟩:∃v,(cano h c).val=v:=⟨_,rfl⟩
 obtain ⟨mm,hm⟩:∃m,(cano h c).marks=m:=⟨_,rfl⟩
 rw [hn,hv,hm] at hva hen ⊢
 have HX:=H_ (bk_alloc (heap_alloc_at w (.cells #[.int .i64 (h:Int),.slice A n cap,.int .i64 v,.int .i64 mm] 72)) (.cells #[.int .i64 0,.slice none 0 0,.int .i64 0,.int .i64 0] 72))
 have HR:=H_ (heap_at_new (w.alloc (.cells #[.int .i64 (h:Int),.slice A n cap,.int .i64 v,.int .i64 mm] 72)) (.cells #[.int .i64 0,.slice none 0 0,.int .i64 0,.int .i64 0] 72) (w.heap.size+1) (by simp))
 have HW:=H_ (bl_alloc (bl_alloc (Below.refl w.heap.size w) (.cells #[.int .i64 (h:Int),.slice A n cap,.int .i64 v,.int .i64 mm] 72)) (.cells #[.int .i64 0,.slice none 0 0,.int .i64 0,.int .i64 0] 72))
 have HSS:=H_ hS
 obtain ⟨i0,hi,hz0,hz1,hz2⟩:=info_parts entry_info
 generalize ents 0 (4 ^ h) c=es at hen HG HCO hel
 clear hn hv hm hk hS hl ht hcap
 by_cases q0:i<0
 ·have HS:=H_ (show setR c i y=(zeroC,2) by unfold setR inB;rw [dF (by omega)];rfl)
  have q1:decide (i<0)=true:=decide_eq_true q0
  clear hen
  go_enter Tryz.func71,Tryz.ntmps71
  go_wp2_with (first
   | (go_at_call 120;(with_reducible refine CM (hva _ (by (repeat (with_reducible first | assumption | exact Below.refl _ _ | refine bl_alloc ?_ _ | apply Below.drew | refine below_drewN ?_ _ | (apply bl_step2;assumption) | (refine Below.setCell ?_ (Nat.le_refl _) _) | (refine Below.setCell ?_ (by first | omega | (simp;done) | (go_simp;done)) _))))) ?_);rintro e w1 ⟨rfl,hb1⟩;have HX1:=bkh HX hb1;have HR1:=bkh HR hb1;have HW1:=blh HW hb1;obtain ⟨x0,x1,x2,x3⟩:=cs4 HX1.out)
   | (refine wpList_store_rowTo rfl 72 (.tmp 6) (.tmp 21) rfl rfl (w.heap.size+1) #[.int .i64 0,.slice none 0 0,.int .i64 0,.int .i64 0] rfl rfl 72 _ (HR1.out) tree_size rfl (tree_one _ _ _ _ _ _) ?_))
  show bodyPost Tryz.prog Tryz.f71 _ _ _ _
  refine bodyPost_ret (tree2_res rfl _ _ (w.heap.size+1) _ _ _ _ _ _ _ rfl rfl (setRow_heap _ _ _ _ _ _ HR1.out)) rfl ?_
  rw [HS.out]
  exact RetTE.err (bl_setRow HW1.out (by omega) _)
 ·by_cases q1:255<i
  ·have HS:=H_ (show setR c i y=(zeroC,2) by unfold setR inB;rw [dF (by omega)];rfl)
   clear hen
   go_enter Tryz.func71,Tryz.ntmps71
   go_wp2_with (first
    | (go_at_call 120;(with_reducible refine CM (hva _ (by (repeat (with_reducible first | assumption | exact Below.refl _ _ | refine bl_alloc ?_ _ | apply Below.drew | refine below_drewN ?_ _ | (apply bl_step2;assumption) | (refine Below.setCell ?_ (Nat.le_refl _) _) | (refine Below.setCell ?_ (by first | omega | (simp;done) | (go_simp;done)) _))))) ?_);rintro e w1 ⟨rfl,hb1⟩;have HX1:=bkh HX hb1;have HR1:=bkh HR hb1;have HW1:=blh HW hb1;obtain ⟨x0,x1,x2,x3⟩:=cs4 HX1.out)
    | (refine wpList_store_rowTo rfl 72 (.tmp 6) (.tmp 21) rfl rfl (w.heap.size+1) #[.int .i64 0,.slice none 0 0,.int .i64 0,.int .i64 0] rfl rfl 72 _ (HR1.out) tree_size rfl (tree_one _ _ _ _ _ _) ?_))
   show bodyPost Tryz.prog Tryz.f71 _ _ _ _
   refine bodyPost_ret (tree2_res rfl _ _ (w.heap.size+1) _ _ _ _ _ _ _ rfl rfl (setRow_heap _ _ _ _ _ _ HR1.out)) rfl ?_
   rw [HS.out]
   exact RetTE.err (bl_setRow HW1.out (by omega) _)
  ·obtain ⟨j,rfl⟩:=Int.eq_ofNat_of_zero_le (show 0≤i by omega)
   have HS:=H_ (show setR c j y=(upd c j (y,0),0) by unfold setR inB;rw [dT (by omega)];simp)
   have q1':¬255<j:=by omega
   have j0:(0:Int)≤(j:Int):=by omega
   have j1:(j:Int)≤255:=by omega
   go_enter Tryz.func71,Tryz.ntmps71
   go_wp2_with (first | (go_at_call 120;(with_reducible refine CM (hva _ (by (repeat (with_reducible first | assumption | exact Below.refl _ _ | refine bl_alloc ?_ _ | apply Below.drew | refine below_drewN ?_ _ | (apply bl_step2;assumption) | (refine Below.setCell ?_ (Nat.le_refl _) _) | (refine Below.setCell ?_ (by first | omega | (simp;done) | (go_simp;done)) _))))) ?_);rintro e w1 ⟨rfl,hb1⟩;have HX1:=bkh HX hb1;have HR1:=bkh HR hb1;have HW1:=blh HW hb1;obtain ⟨x0,x1,x2,x3⟩:=cs4 HX1.out) | (go_at_call 80;(with_reducible refine CM (hen _ HW1.out) ?_);rintro e w2 ⟨vv,rfl,hown,hb2⟩;have HR2:=bkh HR1 hb2;have HW2:=blh HW1 hb2))
   have HE:=H_ (EA.of_own (S:=Any) hown (fun _ _=>trivial))
   have hE0:=HE.out
   obtain ⟨A2,cap2,rfl,hcp2,hcm2,_⟩:=hE0
   unfold maxLen at hcm2
   clear hown hb1 hb2 hva hen HX1 HR1 HW1 x0 x1 x2 x3 HX HR HW
   go_loopw [9,10] (fun s9 s10 wx=>∃k:Nat,k≤es.length∧s10 = .int .i64 k∧wx.ownsRow w2.heap.size 137 3 s9 (outP (es.take k) j).length (ens (outP (es.take k) j))∧EA wx (fun z=>z<w2.heap.size) (.slice A2 es.length cap2) es∧wx.heap[w.heap.size+1]?=some (.cells #[.int .i64 0,.slice none 0 0,.int .i64 0,.int .i64 0] 72 (0,0))∧Below w2.heap.size w2 wx) (fun _ s10 _=>es.length - (intOf s10).toNat)
   case atStart=>exact ⟨0,by omega,rfl,World.ownsRow_nil _ _ _ _,HE.out.weak (fun b hb _=>hb),HR2.out,Below.refl _ _⟩
   case round=>
    have lR2:=bk_lt HR2.out
    clear HR2 HE
    obtain ⟨k,hk,rfl,hown,hE,hR,hW⟩:=hrel
    have Hown:=H_ hown
    have HE:=H_ hE
    have HR:=H_ hR
    have HW:=H_ hW
    have hsz:=hW.size
    clear hown hE hR hW
    by_cases hlt:k<es.length
    ·obtain ⟨bb,o,cap',d,s,c',e0,_,_,hbl,he,c0,c1,c2⟩:=HE.out.at_ hlt
     injection e0 with e0 _ e2
     subst e0
     have HT:=H_ (outP_take (i:=(j:Int)) he)
     have hll:=outP_len (es.take k) (j:Int)
     rw [List.length_take,Nat.min_eq_left hk] at hll
     have k0:(0:Int)≤(k:Int):=by omega
     have k1:(k:Int)<(es.length:Int):=by omega
     clear he e2
     by_cases q:d=(j:Int)
     ·have HT2:=H_ (show (d != (j:Int))=false by simp [q])
      have e1:(d != (j:Int))=false:=HT2.out
      have e2:(d == (j:Int))=true:=by simp [q]
      clear q
      go_wp2
      go_roundw
      case rel=>exact ⟨k+1,by omega,by go_num,by rw [HT.out,HT2.out];simpa using Hown.out,HE.out,HR.out,HW.out⟩
      case measure=>simp [intOf];omega
     ·have HT2:=H_ (show (d != (j:Int))=true by simp [q])
      have e1:(d != (j:Int))=true:=HT2.out
      have e2:(d == (j:Int))=false:=by simp [q]
      clear q
      generalize outP (es.take k) j=acc at *
      go_wp2_with (at_builtin;go_loud (refine wpList_append_lies _ rfl (.tmp 37) (.tmp 42) 133 rfl w2.heap.size 137 i0 _ 3 24 Tryz.underlying133 hi hz0 hz1 hz2 rfl (by omega) _ acc.length (ens acc) rfl (own_step Hown.out (bl_alloc B_ _)) ⟨_,0,none⟩ 1 1 [.int .i64 d,.int .i64 s,.int .i64 c'] rfl rfl (World.news_of_block (heap_at_new _ _ _ (by first | rfl | simp))) (by simp [Value.oneCell']) (by omega) (by unfold maxLen;omega) (by omega) (by simp;omega) _ rfl ?_);intro gg cap4 w4 hown4 hg4 hat4 hlt4)
      go_roundw
      case rel=>
       refine ⟨k+1,by omega,by go_num,by rw [HT.out,HT2.out];exact ens_snoc hown4,?_,?_,(bl_alloc HW.out _).grown hg4 (bl_alloc HW.out _).size (fun z hz=>(Hown.out.lt z hz).1)⟩
       ·exact (HE.out.step (bl_alloc B_ _)).kept hg4.size (fun z hz hlt=>hg4.block z hlt (fun e=>by have:=(Hown.out.lt z e.symm).1;omega))
       ·exact (hg4.block _ (by simp;omega) (fun e=>by have:=(Hown.out.lt _ e.symm).1;omega)).trans (bk_alloc HR.out _)
      case measure=>simp [intOf];omega
    ·obtain rfl:k=es.length:=by omega
     have hown:=Hown.out
     rw [List.take_length] at hown
     have hll:=outP_len es (j:Int)
     have Hown2:=H_ hown
     have HWW:=H_ (bl_step HW2.out HW.out)
     have hwsz:=HW2.out.size
     clear hown Hown
     by_cases qy:y=0
     ·subst qy
      have hco:cOf (outP es j)=upd c j (0,0):=by rw [cOf_set0,HCO.out]
      have hma:=fun w' (hE:EA w' Any u9 (outP es j))=>made_w (outP es j) u9 (fun z=>S z∧z≠w.heap.size+1) Any w' (good_out HG.out _) (by omega) hE
      rw [hco] at hma
      have hE5:=EA.of_own (S:=Any) Hown2.out (fun _ _=>trivial)
      clear hco
      go_wp2_with (first
       | (go_at_call 121;(with_reducible refine CM (hma _ hE5 (fun z hz=>⟨HSS.out z (by omega),by omega⟩)) ?_);rintro e w3 ⟨h',A',cap',rfl,ht',hc',hk',hb3⟩;have HR3:=bkh HR hb3;have HW3:=blh HWW hb3)
       | (refine wpList_store_rowTo rfl 72 (.tmp 6) (.tmp 53) rfl rfl (w.heap.size+1) #[.int .i64 (h':Int),.slice A' (cano h' (upd c j (0,0))).kids.length cap',.int .i64 (cano h' (upd c j (0,0))).val,.int .i64 (cano h' (upd c j (0,0))).marks] rfl rfl 72 _ (HR3.out) tree_size rfl (tree_one _ _ _ _ _ _) ?_))
      show bodyPost Tryz.prog Tryz.f71 _ _ _ _
      refine bodyPost_ret (tree2_res rfl _ _ (w.heap.size+1) _ _ _ _ _ _ _ rfl rfl (setRow_heap _ _ _ _ _ _ HR3.out)) rfl ?_
      rw [HS.out]
      exact ⟨h',A',cap',rfl,ht',hc',(hk'.kept (by simp [World.setRow]) (fun z hz _=>setRow_other _ _ _ _ hz.2)).weak fun _ _ h=>h.1,bl_setRow HW3.out (by omega) _⟩
     ·have y1:(y != 0)=true:=bne_iff_ne.2 qy
      have y2:(y == 0)=false:=beq_eq_false_iff_ne.2 qy
      have hco:cOf (outP es j ++ [((j:Int),y,0)])=upd c j (y,0):=by rw [cOf_set1,HCO.out]
      have hma:=fun vx w' (hE:EA w' Any vx (outP es j ++ [((j:Int),y,0)]))=>made_w (outP es j ++ [((j:Int),y,0)]) vx (fun z=>S z∧z≠w.heap.size+1) Any w' (good_app (good_out HG.out _) ⟨j0,by show (j:Int)<256;omega,fun e=>by injection e with e _;exact qy e⟩) (by rw [List.length_append];simp;omega) hE
      rw [hco] at hma
      clear hco qy
      go_wp2_with (first
       | (at_builtin;go_loud (refine wpList_append_lies _ rfl (.tmp 46) (.tmp 50) 133 rfl w2.heap.size 137 i0 _ 3 24 Tryz.underlying133 hi hz0 hz1 hz2 rfl (by omega) _ (outP es j).length (ens (outP es j)) rfl (own_step Hown2.out (bl_alloc B_ _)) ⟨_,0,none⟩ 1 1 [.int .i64 j,.int .i64 y,.int .i64 0] rfl rfl (World.news_of_block (heap_at_new _ _ _ (by first | rfl | simp))) (by simp [Value.oneCell']) (by omega) (by unfold maxLen;omega) (by omega) (by simp;omega) _ rfl ?_);intro gg cap4 w4 hown4 hg4 hat4 hlt4;have HR5:=H_ ((hg4.block (w.heap.size+1) (by simp;omega) (fun e=>by have:=(Hown2.out.lt _ e.symm).1;omega)).trans (bk_alloc HR.out _));have HW5:=H_ ((bl_alloc HWW.out (.cells #[.int .i64 j,.int .i64 y,.int .i64 0] 137)).grown hg4 (bl_alloc HWW.out _).size (fun z hz=>by have:=(Hown2.out.lt z hz).1;omega));have hE5:=EA.of_own (S:=Any) (ens_snoc hown4) (fun _ _=>trivial);have hsz5:=hg4.size;simp at hsz5)
       | (go_at_call 121;(with_reducible refine CM (hma _ _ hE5 (fun z hz=>⟨HSS.out z (by omega),by omega⟩)) ?_);rintro e w3 ⟨h',A',cap',rfl,ht',hc',hk',hb3⟩;have HR3:=bkh HR5 hb3;have HW3:=blh HW5 hb3)
       | (refine wpList_store_rowTo rfl 72 (.tmp 6) (.tmp 53) rfl rfl (w.heap.size+1) #[.int .i64 (h':Int),.slice A' (cano h' (upd c j (y,0))).kids.length cap',.int .i64 (cano h' (upd c j (y,0))).val,.int .i64 (cano h' (upd c j (y,0))).marks] rfl rfl 72 _ (HR3.out) tree_size rfl (tree_one _ _ _ _ _ _) ?_))
      show bodyPost Tryz.prog Tryz.f71 _ _ _ _
      refine bodyPost_ret (tree2_res rfl _ _ (w.heap.size+1) _ _ _ _ _ _ _ rfl rfl (setRow_heap _ _ _ _ _ _ HR3.out)) rfl ?_
      rw [HS.out]
      exact ⟨h',A',cap',rfl,ht',hc',(hk'.kept (by simp [World.setRow]) (fun z hz _=>setRow_other _ _ _ _ hz.2)).weak fun _ _ h=>h.1,bl_setRow HW3.out (by omega) _⟩
end
section
theorem find_set {p:En→Bool} {e':En} (he':p e'=false):∀(l:List En) (k:Nat),(∀e,l[k]?=some e→p e=false)→(l.set k e').find? p=l.find? p
 | [],_,_=>rfl
 | e :: l,0,h=>by
  rw [List.set_cons_zero,List.find?_cons,List.find?_cons,he',h e (by simp)]
 | e :: l,k+1,h=>by
  rw [List.set_cons_succ,List.find?_cons,List.find?_cons,find_set he' l k (fun x hx=>h x (by simpa using hx))]
theorem lkP_set {l:List En} {i j:Int} {k:Nat} {v m:Int} {x:Int × Int} (hf:findP l i=(k:Int)) (h:l[k]?=some (i,v,m)):lkP (l.set k (i,x)) j=if j=i then x else lkP l j:=by
 have hk:=(g_l h)
 by_cases hj:j=i
 ·subst hj
  rw [if_pos rfl]
  have h1:(l.set k (j,x))[k]?=some (j,x.1,x.2):=by rw [List.getElem?_set_self hk]
  have h2:findP (l.set k (j,x)) j=(k:Int):=findP_at h1 fun a d s c ha hac=>by
   rw [List.getElem?_set_ne (by omega)] at hac
   intro e
   unfold findP at hf
   cases hx:l.findIdx? (fun e=>e.1 == j) with
   | none=>rw [hx] at hf;simp at hf
   | some k'=>
    rw [hx] at hf
    obtain rfl:k'=k:=by simp only at hf;omega
    rw [List.findIdx?_eq_some_iff_getElem] at hx
    obtain ⟨g1,g2,g3⟩:=hx
    have:=g3 a ha
    have hal:a<l.length:=(g_l hac)
    rw [List.getElem?_eq_getElem hal] at hac
    injection hac with hac
    rw [hac] at this
    simp [e] at this
  exact lkP_at h2 h1
 ·rw [if_neg hj]
  unfold lkP
  rw [find_set (by simpa using fun e=>hj e.symm) l k (fun e he=>by rw [h] at he;injection he with he;rw [←he];simpa using fun e=>hj e.symm)]
theorem cOf_setk {l:List En} {j k:Nat} {v m:Int} {x:Int × Int} (hf:findP l j=(k:Int)) (h:l[k]?=some ((j:Int),v,m)):cOf (l.set k ((j:Int),x))=upd (cOf l) j x:=by
 funext a
 show lkP _ (a:Int)=if a=j then x else lkP l (a:Int)
 rw [lkP_set hf h]
 by_cases e:a=j
 ·subst e;simp
 ·rw [if_neg e,if_neg (by omega)]
theorem good_set {l:List En} {k:Nat} {e:En} (hg:Good l) (he:0≤e.1∧e.1<256∧e.2≠(0,0)):Good (l.set k e):=fun x hx=>by
 rcases List.mem_or_eq_of_mem_set hx with hx | rfl
 ·exact hg x hx
 ·exact he
theorem own_at {w:World} {B:Nat} {v:Value} {l:List En} {k:Nat} {d s c:Int} (h:w.ownsRow B 137 3 v l.length (ens l)) (hk:l[k]?=some (d,s,c)) :
  ∃g cap,v = .slice (some ⟨g,0,none⟩) l.length cap∧l.length≤cap∧cap≤maxLen∧B≤g∧g<w.heap.size∧w.cell? ⟨g,k*3,none⟩=some (.int .i64 d)∧w.cell? ⟨g,k*3+1,none⟩=some (.int .i64 s)∧w.cell? ⟨g,k*3+2,none⟩=some (.int .i64 c)∧w.frozen? ⟨g,k*3+2,none⟩=false∧
   ∀x:Int,EA (w.setCell ⟨g,k*3+2,none⟩ (.int .i64 x)) Any v (l.set k (d,s,x)):=by
 have hkl:=(g_l hk)
 rcases h.2 with ⟨h1,h2⟩ | ⟨g,cap,cur,h1,h2,h3,h4,h5,h6,h7⟩
 ·omega
 ·have hx:∀j,j<l.length*3→w.cell? ⟨g,j,none⟩=(ens l)[j]?:=fun j hj=>by
   rw [←h7,List.getElem?_take,if_pos hj]
   simp [World.cell?,h3]
  obtain ⟨x0,x1,x2⟩:=ens_get l k d s c hk
  have hc2:=(hx (k*3+2) (by omega)).trans x2
  refine ⟨g,cap,h1,h4,h5,h2,bk_lt h3,(hx _ (by omega)).trans x0,(hx _ (by omega)).trans x1,hc2,free_at h3 _,fun x=>?_⟩
  refine ⟨_,cap,by rw [h1,List.length_set],by rw [List.length_set];exact h4,h5,.inr ⟨g,0,rfl,by have:=bk_lt h3;simpa [World.setCell] using this,trivial,fun i d' s' c' hi=>?_⟩⟩
  have hil:i<l.length:=by have:=(g_l hi);rwa [List.length_set] at this
  rw [Nat.zero_add]
  by_cases hik:i=k
  ·subst hik
   rw [List.getElem?_set_self hkl] at hi
   injection hi with hi
   injection hi with e1 hi
   injection hi with e2 e3
   subst e1 e2 e3
   refine ⟨?_,?_,?_⟩
   ·rw [World.cell?_setCell_other _ _ _ _ (by first | (simp;done) | (simp;omega))];exact (hx _ (by omega)).trans x0
   ·rw [World.cell?_setCell_other _ _ _ _ (by first | (simp;done) | (simp;omega))];exact (hx _ (by omega)).trans x1
   ·exact World.cell?_setCell_same _ _ _ hc2
  ·rw [List.getElem?_set_ne (by omega)] at hi
   obtain ⟨z0,z1,z2⟩:=ens_get l i d' s' c' hi
   refine ⟨?_,?_,?_⟩
   ·rw [World.cell?_setCell_other _ _ _ _ (by first | (simp;done) | (simp;omega))];exact (hx _ (by omega)).trans z0
   ·rw [World.cell?_setCell_other _ _ _ _ (by first | (simp;done) | (simp;omega))];exact (hx _ (by omega)).trans z1
   ·rw [World.cell?_setCell_other _ _ _ _ (by first | (simp;done) | (simp;omega))];exact (hx _ (by omega)).trans z2
def chR (on:Bool) (c:Cn) (i m:Int):Cn × Int:=if on then markR c i m else unmarkR c i m
def chI (on:Bool) (a m:Int):Int:=if on then orI a m else notI a m
theorem chR_err {on:Bool} {c:Cn} {i m:Int} (h:(frR c i m).2≠0):chR on c i m=(zeroC,(frR c i m).2):=by
 unfold chR markR unmarkR
 cases on <;> simp [h]
theorem chR_ok {on:Bool} {c:Cn} {i m:Int} (h:(frR c i m).2=0):chR on c i m=(upd c i.toNat ((c i.toNat).1,chI on (c i.toNat).2 m),0):=by
 unfold chR markR unmarkR chI
 cases on <;> simp [h]
theorem change_w (on:Bool) (h:Nat) (c:Cn) (A:Option Addr) (cap:Nat) (S:Nat→Prop) (i m:Int) (w:World) (hl:leafy c) (ht:TreeOk h c) (hcap:(cano h c).kids.length≤cap) (hk:NK w S A (cano h c).kids) (hS:∀b,w.heap.size≤b→S b) :
  Calls Tryz.prog 166 #[trV h A (cano h c).kids.length cap (cano h c).val (cano h c).marks,.int .i64 i,.int .i64 m,.bool on] w (RetTE (chR on c i m).1 (chR on c i m).2 S w):=by
 have h4:=ht.1
 have hp:4 ^ h≤256:=show 4 ^ h≤4 ^ 4 from Nat.pow_le_pow_right (by omega) h4
 have HG:=H_ (good_ents (c:=c) hp)
 have HCO:=H_ (cOf_ents ht.2.1)
 have hel:=ents_len 0 (4 ^ h) c
 have HLV:=H_ hl
 have hva:=fun w' (hb:Below w.heap.size w w')=>rValid_w h (cano h c) A cap S w' (cano_ml _ _) hcap (hk.step hb)
 rw [valid_of hl ht] at hva
 have hen:=fun w' (hb:Below w.heap.size w w')=>rEntries_w h c A cap S w' hl ht hcap (hk.step hb)
 obtain ⟨n,hn⟩:∃n,(cano h c).kids.length=n:=⟨_,rfl⟩
 obtain ⟨v,hv⟩:∃v,(cano h c).val=v:=⟨_,rfl⟩
 obtain ⟨mm,hm⟩:∃m,(cano h c).marks=m:=⟨_,rfl⟩
 rw [hn,hv,hm] at hva hen ⊢
 have HX:=H_ (bk_alloc (heap_alloc_at w (.cells #[.int .i64 (h:Int),.slice A n cap,.int .i64 v,.int .i64 mm] 72)) (.cells #[.int .i64 0,.slice none 0 0,.int .i64 0,.int .i64 0] 72))
 have HR:=H_ (heap_at_new (w.alloc (.cells #[.int .i64 (h:Int),.slice A n cap,.int .i64 v,.int .i64 mm] 72)) (.cells #[.int .i64 0,.slice none 0 0,.int .i64 0,.int .i64 0] 72) (w.heap.size+1) (by simp))
 have HW:=H_ (bl_alloc (bl_alloc (Below.refl w.heap.size w) (.cells #[.int .i64 (h:Int),.slice A n cap,.int .i64 v,.int .i64 mm] 72)) (.cells #[.int .i64 0,.slice none 0 0,.int .i64 0,.int .i64 0] 72))
 have HSS:=H_ hS
 have hon:=fun w=>one_b m w
 generalize ents 0 (4 ^ h) c=es at hen HG HCO hel
 clear hn hv hm hk hS hl ht hcap
 by_cases q0:i<0
 ·have hfe:frR c i m=((0,0),2):=by unfold frR inB;rw [dF (by omega)];rfl
  have q1:decide (i<0)=true:=decide_eq_true q0
  clear hen
  have HS:=H_ (show chR on c i m=(zeroC,2) by rw [chR_err (by rw [hfe];simp),hfe])
  go_enter Tryz.func166,Tryz.ntmps166
  go_wp2_with (first
   | (go_at_call 120;(with_reducible refine CM (hva _ (by (repeat (with_reducible first | assumption | exact Below.refl _ _ | refine bl_alloc ?_ _ | apply Below.drew | refine below_drewN ?_ _ | (apply bl_step2;assumption) | (refine Below.setCell ?_ (Nat.le_refl _) _) | (refine Below.setCell ?_ (by first | omega | (simp;done) | (go_simp;done)) _))))) ?_);rintro e w1 ⟨rfl,hb1⟩;have HX1:=bkh HX hb1;have HR1:=bkh HR hb1;have HW1:=blh HW hb1;obtain ⟨x0,x1,x2,x3⟩:=cs4 HX1.out)
   | (go_at_call 167;(with_reducible refine CM (hon _) ?_);rintro e w2 ⟨rfl,rfl⟩)
   | (refine wpList_store_rowTo rfl 72 (.tmp 8) (.tmp 22) rfl rfl (w.heap.size+1) #[.int .i64 0,.slice none 0 0,.int .i64 0,.int .i64 0] rfl rfl 72 _ (HR1.out) tree_size rfl (tree_one _ _ _ _ _ _) ?_))
  show bodyPost Tryz.prog Tryz.f166 _ _ _ _
  refine bodyPost_ret (tree2_res rfl _ _ (w.heap.size+1) _ _ _ _ _ _ _ rfl rfl (setRow_heap _ _ _ _ _ _ HR1.out)) rfl ?_
  rw [HS.out]
  exact RetTE.err (bl_setRow HW1.out (by omega) _)
 ·by_cases q1:255<i
  ·have hfe:frR c i m=((0,0),2):=by unfold frR inB;rw [dF (by omega)];rfl
   clear hen
   have HS:=H_ (show chR on c i m=(zeroC,2) by rw [chR_err (by rw [hfe];simp),hfe])
   go_enter Tryz.func166,Tryz.ntmps166
   go_wp2_with (first
    | (go_at_call 120;(with_reducible refine CM (hva _ (by (repeat (with_reducible first | assumption | exact Below.refl _ _ | refine bl_alloc ?_ _ | apply Below.drew | refine below_drewN ?_ _ | (apply bl_step2;assumption) | (refine Below.setCell ?_ (Nat.le_refl _) _) | (refine Below.setCell ?_ (by first | omega | (simp;done) | (go_simp;done)) _))))) ?_);rintro e w1 ⟨rfl,hb1⟩;have HX1:=bkh HX hb1;have HR1:=bkh HR hb1;have HW1:=blh HW hb1;obtain ⟨x0,x1,x2,x3⟩:=cs4 HX1.out)
    | (go_at_call 167;(with_reducible refine CM (hon _) ?_);rintro e w2 ⟨rfl,rfl⟩)
    | (refine wpList_store_rowTo rfl 72 (.tmp 8) (.tmp 22) rfl rfl (w.heap.size+1) #[.int .i64 0,.slice none 0 0,.int .i64 0,.int .i64 0] rfl rfl 72 _ (HR1.out) tree_size rfl (tree_one _ _ _ _ _ _) ?_))
   show bodyPost Tryz.prog Tryz.f166 _ _ _ _
   refine bodyPost_ret (tree2_res rfl _ _ (w.heap.size+1) _ _ _ _ _ _ _ rfl rfl (setRow_heap _ _ _ _ _ _ HR1.out)) rfl ?_
   rw [HS.out]
   exact RetTE.err (bl_setRow HW1.out (by omega) _)
  ·obtain ⟨j,rfl⟩:=Int.eq_ofNat_of_zero_le (show 0≤i by omega)
   have hib:inB (j:Int)=true:=dT (by omega)
   have q1':¬255<j:=by omega
   have j0:(0:Int)≤(j:Int):=by omega
   have j1:(j:Int)≤255:=by omega
   cases ho:oneB m with
   | false=>
    have hfe:frR c j m=((0,0),1):=by unfold frR;rw [hib,ho];rfl
    rw [ho] at hon
    clear hen ho hib
    have HS:=H_ (show chR on c j m=(zeroC,1) by rw [chR_err (by rw [hfe];simp),hfe])
    go_enter Tryz.func166,Tryz.ntmps166
    go_wp2_with (first
     | (go_at_call 120;(with_reducible refine CM (hva _ (by (repeat (with_reducible first | assumption | exact Below.refl _ _ | refine bl_alloc ?_ _ | apply Below.drew | refine below_drewN ?_ _ | (apply bl_step2;assumption) | (refine Below.setCell ?_ (Nat.le_refl _) _) | (refine Below.setCell ?_ (by first | omega | (simp;done) | (go_simp;done)) _))))) ?_);rintro e w1 ⟨rfl,hb1⟩;have HX1:=bkh HX hb1;have HR1:=bkh HR hb1;have HW1:=blh HW hb1;obtain ⟨x0,x1,x2,x3⟩:=cs4 HX1.out)
     | (go_at_call 167;(with_reducible refine CM (hon _) ?_);rintro e w2 ⟨rfl,rfl⟩)
     | (refine wpList_store_rowTo rfl 72 (.tmp 8) (.tmp 26) rfl rfl (w.heap.size+1) #[.int .i64 0,.slice none 0 0,.int .i64 0,.int .i64 0] rfl rfl 72 _ (HR1.out) tree_size rfl (tree_one _ _ _ _ _ _) ?_))
    show bodyPost Tryz.prog Tryz.f166 _ _ _ _
    refine bodyPost_ret (tree2_res rfl _ _ (w.heap.size+1) _ _ _ _ _ _ _ rfl rfl (setRow_heap _ _ _ _ _ _ HR1.out)) rfl ?_
    rw [HS.out]
    exact RetTE.err (bl_setRow HW1.out (by omega) _)
   | true=>
    rw [ho] at hon
    have hcl:c j=lkP es j:=by rw [←HCO.out];rfl
    have hlv:=HLV.out j
    go_enter Tryz.func166,Tryz.ntmps166
    go_upto_region 8 with (first | (go_at_call 120;(with_reducible refine CM (hva _ (by (repeat (with_reducible first | assumption | exact Below.refl _ _ | refine bl_alloc ?_ _ | apply Below.drew | refine below_drewN ?_ _ | (apply bl_step2;assumption) | (refine Below.setCell ?_ (Nat.le_refl _) _) | (refine Below.setCell ?_ (by first | omega | (simp;done) | (go_simp;done)) _))))) ?_);rintro e w1 ⟨rfl,hb1⟩;have HX1:=bkh HX hb1;have HR1:=bkh HR hb1;have HW1:=blh HW hb1;obtain ⟨x0,x1,x2,x3⟩:=cs4 HX1.out) | (go_at_call 167;(with_reducible refine CM (hon _) ?_);rintro e w2 ⟨rfl,rfl⟩) | (go_at_call 80;(with_reducible refine CM (hen _ HW1.out) ?_);rintro e w2 ⟨vv,rfl,hown,hb2⟩;have HR2:=bkh HR1 hb2;have HW2:=blh HW1 hb2))
    have HE2:=H_ (EA.of_own (S:=Any) hown (fun _ _=>trivial))
    have HOW:=H_ hown
    have hE0:=HE2.out
    obtain ⟨A2,cap2,rfl,hcp2,hcm2,_⟩:=hE0
    have hff:=fun w' (h:EA w' Any (.slice A2 es.length cap2) es)=>rfind_w es (.slice A2 es.length cap2) Any (j:Int) w' h
    have hsz2:=hb2.size
    have hlr1:=bk_lt HR1.out
    unfold maxLen at hcm2
    clear hown hb1 hb2 hva hen HX1 HR1 HW1 x0 x1 x2 x3 HX HR HW hon
    rcases findP_range es (j:Int) with hf | ⟨k,hf,hkl,s,c',hat⟩
    ·have hfe:frR c j m=((0,0),4):=by unfold frR;rw [hib,ho,Int.toNat_natCast,hcl,lkP_no hf];simp
     have HS:=H_ (show chR on c j m=(zeroC,4) by rw [chR_err (by rw [hfe];simp),hfe])
     rw [hf] at hff
     clear hib ho hcl hlv hf hfe
     go_wp2_with (first | (go_at_call 81;(with_reducible refine CM (hff _ HE2.out) ?_);rintro e w3 ⟨rfl,rfl⟩) | (refine wpList_store_rowTo rfl 72 (.tmp 8) (.tmp 42) rfl rfl (w.heap.size+1) #[.int .i64 0,.slice none 0 0,.int .i64 0,.int .i64 0] rfl rfl 72 _ (HR2.out) tree_size rfl (tree_one _ _ _ _ _ _) ?_))
     show bodyPost Tryz.prog Tryz.f166 _ _ _ _
     refine bodyPost_ret (tree2_res rfl _ _ (w.heap.size+1) _ _ _ _ _ _ _ rfl rfl (setRow_heap _ _ _ _ _ _ HR2.out)) rfl ?_
     rw [HS.out]
     exact RetTE.err (bl_setRow HW2.out (by omega) _)
    ·rw [hf] at hff
     have hcj:c j=(s,c'):=by rw [hcl];exact lkP_at hf hat
     rw [hcj] at hlv
     have hne:(s,c')≠(0,0):=(HG.out _ (List.mem_of_getElem? hat)).2.2
     have hs0:s≠0:=by
      rcases hlv with e | e
      ·exact absurd e hne
      ·exact e.1
     obtain ⟨g,cap3,hvv,hl3,hm3,hB3,hg3,c0,c1,c2,f2,hset⟩:=own_at HOW.out hat
     injection hvv with hv1 _ hv3
     subst hv1 hv3
     have k0:(0:Int)≤(k:Int):=by omega
     have k1:(k:Int)<(es.length:Int):=by omega
     have k2:¬(k:Int)<0:=by omega
     clear hcl hlv hne
     by_cases hneg:s<0
     ·have hfe:frR c j m=((0,0),4):=by unfold frR;rw [hib,ho,Int.toNat_natCast,hcj,if_pos rfl,if_pos rfl,if_pos (show s≤0 by omega)]
      have HS:=H_ (show chR on c j m=(zeroC,4) by rw [chR_err (by rw [hfe];simp),hfe])
      clear hib ho hf hfe hcj hat hset
      go_wp2_with (first | (go_at_call 81;(with_reducible refine CM (hff _ HE2.out) ?_);rintro e w3 ⟨rfl,rfl⟩) | (refine wpList_store_rowTo rfl 72 (.tmp 8) (.tmp 42) rfl rfl (w.heap.size+1) #[.int .i64 0,.slice none 0 0,.int .i64 0,.int .i64 0] rfl rfl 72 _ (HR2.out) tree_size rfl (tree_one _ _ _ _ _ _) ?_))
      show bodyPost Tryz.prog Tryz.f166 _ _ _ _
      refine bodyPost_ret (tree2_res rfl _ _ (w.heap.size+1) _ _ _ _ _ _ _ rfl rfl (setRow_heap _ _ _ _ _ _ HR2.out)) rfl ?_
      rw [HS.out]
      exact RetTE.err (bl_setRow HW2.out (by omega) _)
     ·have hfr:(frR c (j:Int) m).2=0:=by unfold frR;rw [hib,ho,Int.toNat_natCast,hcj,if_pos rfl,if_pos rfl,if_neg (show ¬s≤0 by omega)]
      clear hib ho
      cases on with
      | true=>
       have hco:cOf (es.set k ((j:Int),s,orI c' m))=upd c j ((c j).1,orI (c j).2 m):=by rw [cOf_setk hf hat,HCO.out,hcj]
       have hma:=fun w' (hE:EA w' Any (.slice (some ⟨g,0,none⟩) es.length cap2) (es.set k ((j:Int),s,orI c' m)))=>made_w _ (.slice (some ⟨g,0,none⟩) es.length cap2) (fun z=>S z∧z≠w.heap.size+1) Any w' (good_set HG.out ⟨by omega,by show (j:Int)<256;omega,fun e=>by injection e with e _;omega⟩) (by rw [List.length_set];omega) hE
       rw [hco] at hma
       have HS:=H_ (show chR true c j m=(upd c j ((c j).1,orI (c j).2 m),0) by rw [chR_ok hfr,Int.toNat_natCast];rfl)
       have HES:=H_ (hset (orI c' m))
       have hlk:=bk_lt HR2.out
       have hnr:w.heap.size+1≠g:=by omega
       clear hco hfr hat hcj hf
       generalize upd c j ((c j).1,orI (c j).2 m)=cc at *
       clear hset
       go_wp2_with (first
        | (go_at_call 81;(with_reducible refine CM (hff _ HE2.out) ?_);rintro e w3 ⟨rfl,rfl⟩)
        | (go_at_call 121;(with_reducible refine CM (hma _ HES.out (fun z hz=>⟨HSS.out z (by simp [World.setCell] at hz;omega),by simp [World.setCell] at hz;omega⟩)) ?_);rintro e w3 ⟨h',A',cap',rfl,ht',hc',hk',hb3⟩;have HR3:=H_ (bk_step (set_bk HR2.out _ _ hnr) hb3);have HW3:=H_ (bl_step (HW2.out.setCell (by simp only;omega) _) hb3))
        | (refine wpList_store_rowTo rfl 72 (.tmp 8) (.tmp 63) rfl rfl (w.heap.size+1) #[.int .i64 (h':Int),.slice A' (cano h' cc).kids.length cap',.int .i64 (cano h' cc).val,.int .i64 (cano h' cc).marks] rfl rfl 72 _ (HR3.out) tree_size rfl (tree_one _ _ _ _ _ _) ?_))
       show bodyPost Tryz.prog Tryz.f166 _ _ _ _
       refine bodyPost_ret (tree2_res rfl _ _ (w.heap.size+1) _ _ _ _ _ _ _ rfl rfl (setRow_heap _ _ _ _ _ _ HR3.out)) rfl ?_
       rw [HS.out]
       exact ⟨h',A',cap',rfl,ht',hc',(hk'.kept (by simp [World.setRow]) (fun z hz _=>setRow_other _ _ _ _ hz.2)).weak fun _ _ h=>h.1,bl_setRow HW3.out (by omega) _⟩
      | false=>
       have hco:cOf (es.set k ((j:Int),s,notI c' m))=upd c j ((c j).1,notI (c j).2 m):=by rw [cOf_setk hf hat,HCO.out,hcj]
       have hma:=fun w' (hE:EA w' Any (.slice (some ⟨g,0,none⟩) es.length cap2) (es.set k ((j:Int),s,notI c' m)))=>made_w _ (.slice (some ⟨g,0,none⟩) es.length cap2) (fun z=>S z∧z≠w.heap.size+1) Any w' (good_set HG.out ⟨by omega,by show (j:Int)<256;omega,fun e=>by injection e with e _;omega⟩) (by rw [List.length_set];omega) hE
       rw [hco] at hma
       have HS:=H_ (show chR false c j m=(upd c j ((c j).1,notI (c j).2 m),0) by rw [chR_ok hfr,Int.toNat_natCast];rfl)
       have HES:=H_ (hset (notI c' m))
       have hlk:=bk_lt HR2.out
       have hnr:w.heap.size+1≠g:=by omega
       clear hco hfr hat hcj hf
       generalize upd c j ((c j).1,notI (c j).2 m)=cc at *
       clear hset
       go_wp2_with (first
        | (go_at_call 81;(with_reducible refine CM (hff _ HE2.out) ?_);rintro e w3 ⟨rfl,rfl⟩)
        | (go_at_call 121;(with_reducible refine CM (hma _ HES.out (fun z hz=>⟨HSS.out z (by simp [World.setCell] at hz;omega),by simp [World.setCell] at hz;omega⟩)) ?_);rintro e w3 ⟨h',A',cap',rfl,ht',hc',hk',hb3⟩;have HR3:=H_ (bk_step (set_bk HR2.out _ _ hnr) hb3);have HW3:=H_ (bl_step (HW2.out.setCell (by simp only;omega) _) hb3))
        | (refine wpList_store_rowTo rfl 72 (.tmp 8) (.tmp 63) rfl rfl (w.heap.size+1) #[.int .i64 (h':Int),.slice A' (cano h' cc).kids.length cap',.int .i64 (cano h' cc).val,.int .i64 (cano h' cc).marks] rfl rfl 72 _ (HR3.out) tree_size rfl (tree_one _ _ _ _ _ _) ?_))
       show bodyPost Tryz.prog Tryz.f166 _ _ _ _
       refine bodyPost_ret (tree2_res rfl _ _ (w.heap.size+1) _ _ _ _ _ _ _ rfl rfl (setRow_heap _ _ _ _ _ _ HR3.out)) rfl ?_
       rw [HS.out]
       exact ⟨h',A',cap',rfl,ht',hc',(hk'.kept (by simp [World.setRow]) (fun z hz _=>setRow_other _ _ _ _ hz.2)).weak fun _ _ h=>h.1,bl_setRow HW3.out (by omega) _⟩
end
section
theorem rMark_w (h:Nat) (c:Cn) (A:Option Addr) (cap:Nat) (S:Nat→Prop) (i m:Int) (w:World) (hl:leafy c) (ht:TreeOk h c) (hcap:(cano h c).kids.length≤cap) (hk:NK w S A (cano h c).kids) (hS:∀b,w.heap.size≤b→S b) :
  Calls Tryz.prog 161 #[trV h A (cano h c).kids.length cap (cano h c).val (cano h c).marks,.int .i64 i,.int .i64 m] w (RetTE (markR c i m).1 (markR c i m).2 S w):=by
 have hch:=fun w' (hb:Below w.heap.size w w') (hz:w.heap.size+1<w'.heap.size)=>change_w true h c A cap (fun z=>S z∧z≠w.heap.size+1) i m w' hl ht hcap ((hk.weak fun z hz h=>⟨h,by omega⟩).step hb) (fun b hb'=>⟨hS b (Nat.le_trans hb.size (by omega)),by omega⟩)
 rw [show chR true c i m=markR c i m from rfl] at hch
 obtain ⟨n,hn⟩:∃n,(cano h c).kids.length=n:=⟨_,rfl⟩
 obtain ⟨v,hv⟩:∃v,(cano h c).val=v:=⟨_,rfl⟩
 obtain ⟨mm,hm⟩:∃m,(cano h c).marks=m:=⟨_,rfl⟩
 rw [hn,hv,hm] at hch ⊢
 have HR:=H_ (heap_at_new (w.alloc (.cells #[.int .i64 (h:Int),.slice A n cap,.int .i64 v,.int .i64 mm] 72)) (.cells #[.int .i64 0,.slice none 0 0,.int .i64 0,.int .i64 0] 72) (w.heap.size+1) (by simp))
 have HW:=H_ (bl_alloc (bl_alloc (Below.refl w.heap.size w) (.cells #[.int .i64 (h:Int),.slice A n cap,.int .i64 v,.int .i64 mm] 72)) (.cells #[.int .i64 0,.slice none 0 0,.int .i64 0,.int .i64 0] 72))
 generalize markR c i m=r at hch ⊢
 clear hn hv hm hk hS hl ht hcap
 go_enter Tryz.func161,Tryz.ntmps161
 go_wp2_with (first
  | (go_at_call 166;(with_reducible refine CM (hch _ (by (repeat (with_reducible first | assumption | exact Below.refl _ _ | refine bl_alloc ?_ _ | apply Below.drew | refine below_drewN ?_ _ | (apply bl_step2;assumption) | (refine Below.setCell ?_ (Nat.le_refl _) _) | (refine Below.setCell ?_ (by first | omega | (simp;done) | (go_simp;done)) _)))) (by simp)) ?_);rintro e w2 ⟨h',A',cap',rfl,ht',hc',hk',hb2⟩;have HR2:=bkh HR hb2;have HW2:=blh HW hb2)
  | (refine wpList_store_rowTo rfl 72 (.tmp 6) (.tmp 12) rfl rfl (w.heap.size+1) #[.int .i64 (h':Int),.slice A' (cano h' r.1).kids.length cap',.int .i64 (cano h' r.1).val,.int .i64 (cano h' r.1).marks] rfl rfl 72 _ (HR2.out) tree_size rfl (tree_one _ _ _ _ _ _) ?_))
 show bodyPost Tryz.prog Tryz.f161 _ _ _ _
 refine bodyPost_ret (tree2_res rfl _ _ (w.heap.size+1) _ _ _ _ _ _ _ rfl rfl (setRow_heap _ _ _ _ _ _ HR2.out)) rfl ?_
 exact ⟨h',A',cap',rfl,ht',hc',(hk'.kept (by simp [World.setRow]) (fun z hz _=>setRow_other _ _ _ _ hz.2)).weak fun _ _ h=>h.1,bl_setRow HW2.out (by omega) _⟩
theorem rUnmark_w (h:Nat) (c:Cn) (A:Option Addr) (cap:Nat) (S:Nat→Prop) (i m:Int) (w:World) (hl:leafy c) (ht:TreeOk h c) (hcap:(cano h c).kids.length≤cap) (hk:NK w S A (cano h c).kids) (hS:∀b,w.heap.size≤b→S b) :
  Calls Tryz.prog 162 #[trV h A (cano h c).kids.length cap (cano h c).val (cano h c).marks,.int .i64 i,.int .i64 m] w (RetTE (unmarkR c i m).1 (unmarkR c i m).2 S w):=by
 have hch:=fun w' (hb:Below w.heap.size w w') (hz:w.heap.size+1<w'.heap.size)=>change_w false h c A cap (fun z=>S z∧z≠w.heap.size+1) i m w' hl ht hcap ((hk.weak fun z hz h=>⟨h,by omega⟩).step hb) (fun b hb'=>⟨hS b (Nat.le_trans hb.size (by omega)),by omega⟩)
 rw [show chR false c i m=unmarkR c i m from rfl] at hch
 obtain ⟨n,hn⟩:∃n,(cano h c).kids.length=n:=⟨_,rfl⟩
 obtain ⟨v,hv⟩:∃v,(cano h c).val=v:=⟨_,rfl⟩
 obtain ⟨mm,hm⟩:∃m,(cano h c).marks=m:=⟨_,rfl⟩
 rw [hn,hv,hm] at hch ⊢
 have HR:=H_ (heap_at_new (w.alloc (.cells #[.int .i64 (h:Int),.slice A n cap,.int .i64 v,.int .i64 mm] 72)) (.cells #[.int .i64 0,.slice none 0 0,.int .i64 0,.int .i64 0] 72) (w.heap.size+1) (by simp))
 have HW:=H_ (bl_alloc (bl_alloc (Below.refl w.heap.size w) (.cells #[.int .i64 (h:Int),.slice A n cap,.int .i64 v,.int .i64 mm] 72)) (.cells #[.int .i64 0,.slice none 0 0,.int .i64 0,.int .i64 0] 72))
 generalize unmarkR c i m=r at hch ⊢
 clear hn hv hm hk hS hl ht hcap
 go_enter Tryz.func162,Tryz.ntmps162
 go_wp2_with (first
  | (go_at_call 166;(with_reducible refine CM (hch _ (by (repeat (with_reducible first | assumption | exact Below.refl _ _ | refine bl_alloc ?_ _ | apply Below.drew | refine below_drewN ?_ _ | (apply bl_step2;assumption) | (refine Below.setCell ?_ (Nat.le_refl _) _) | (refine Below.setCell ?_ (by first | omega | (simp;done) | (go_simp;done)) _)))) (by simp)) ?_);rintro e w2 ⟨h',A',cap',rfl,ht',hc',hk',hb2⟩;have HR2:=bkh HR hb2;have HW2:=blh HW hb2)
  | (refine wpList_store_rowTo rfl 72 (.tmp 6) (.tmp 12) rfl rfl (w.heap.size+1) #[.int .i64 (h':Int),.slice A' (cano h' r.1).kids.length cap',.int .i64 (cano h' r.1).val,.int .i64 (cano h' r.1).marks] rfl rfl 72 _ (HR2.out) tree_size rfl (tree_one _ _ _ _ _ _) ?_))
 show bodyPost Tryz.prog Tryz.f162 _ _ _ _
 refine bodyPost_ret (tree2_res rfl _ _ (w.heap.size+1) _ _ _ _ _ _ _ rfl rfl (setRow_heap _ _ _ _ _ _ HR2.out)) rfl ?_
 exact ⟨h',A',cap',rfl,ht',hc',(hk'.kept (by simp [World.setRow]) (fun z hz _=>setRow_other _ _ _ _ hz.2)).weak fun _ _ h=>h.1,bl_setRow HW2.out (by omega) _⟩
section
variable (hI:Int) (t:T) (A:Option Addr) (cap:Nat) (S:Nat→Prop) (w:World) (hm:t.kids.length≤maxLen) (hcap:t.kids.length≤cap) (hk:NK w S A t.kids) (hbad:validT hI t=false)
include hm hcap hk hbad
end
end
section
theorem leafy.upd {c:Cn} (h:leafy c) {x:Int × Int} (hx:leafV x) (i:Nat):leafy (upd c i x):=fun j=>by
 unfold Proofs.YthhekebemmckcaaGreatDoor.upd
 split
 ·exact hx
 ·exact h j
end
end Go.Proofs.YthhekebemmckcaaGreatDoor
