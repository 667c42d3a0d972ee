/-
  Lemmas and contracts for the laws of synchronisations (layer 43), part 12; several texts joined by a program.
-/
import Derived.Test.YthhekebemmckcaaGreatDoorJ01
import Derived.Test.YthhekebemmckcaaGreatDoorJ05
import Derived.Test.YthhekebemmckcaaGreatDoorJ11
namespace Go.Proofs.YthhekebemmckcaaGreatDoor
set_option linter.unusedVariables false
set_option linter.unusedSimpArgs false
set_option maxRecDepth 100000
set_option maxHeartbeats 16000000
open Go.RowKit
section
def remL (a:Lr) (f:Int):Lr:=if hasL a f then ⟨outL a.act f,outL a.ina f,outL a.ref f⟩ else a
theorem remove_w (a:Lr) (f:Int) (v1 v2 v3:Value) (S:Nat→Prop) (w:World) (h:LrA w S v1 v2 v3 a) (ok:LruOk a) (hf:1≤f∧f≤64) (hS:∀b,w.heap.size≤b→S b) :
  Calls Tryz.prog 135 #[.agg #[v1,v2,v3],.int .i64 f] w (RetLr (remL a f) (if hasL a f then 0 else 4) S w):=by
 obtain ⟨l1,l2,l3⟩:=ok.lens
 obtain ⟨A1,c1,rfl,p1,p2⟩:=h.1.form
 obtain ⟨A2,c2,rfl,p3,p4⟩:=h.2.1.form
 obtain ⟨A3,c3,rfl,p5,p6⟩:=h.2.2.form
 have hck:=fun w' (hb:Below w.heap.size w w')=>lruCheck_w a _ _ _ S w' (h.step hb) ok
 have hha:=fun w' (hb:Below w.heap.size w w')=>has_w a f _ _ _ S w' (h.step hb)
 have HX:=H_ (bk_alloc (heap_alloc_at w (.cells #[.slice A1 a.act.length c1,.slice A2 a.ina.length c2,.slice A3 a.ref.length c3] 121)) (.cells #[.slice none 0 0,.slice none 0 0,.slice none 0 0] 121))
 have HR:=H_ (heap_at_new (w.alloc (.cells #[.slice A1 a.act.length c1,.slice A2 a.ina.length c2,.slice A3 a.ref.length c3] 121)) (.cells #[.slice none 0 0,.slice none 0 0,.slice none 0 0] 121) (w.heap.size+1) (by simp))
 have HW:=H_ (bl_alloc (bl_alloc (Below.refl w.heap.size w) (.cells #[.slice A1 a.act.length c1,.slice A2 a.ina.length c2,.slice A3 a.ref.length c3] 121)) (.cells #[.slice none 0 0,.slice none 0 0,.slice none 0 0] 121))
 have H:=H_ h
 have HS:=H_ hS
 have q1:decide (f<1)=false:=dF (by omega)
 have q2:decide (64<f)=false:=dF (by omega)
 clear p1 p2 p3 p4 p5 p6 h hS hf ok
 cases q:hasL a f with
 | false=>
  have HQ:=H_ (show remL a f=a by unfold remL;rw [q];rfl)
  rw [q] at hha
  clear q
  go_enter Tryz.func135,Tryz.ntmps135
  go_wp2_with (first
   | (go_at_call 122;(with_reducible refine CM (hck _ HW.out) ?_);rintro e w1 ⟨rfl,hb1⟩;have HX1:=bkh HX hb1;have HR1:=bkh HR hb1;have HW1:=blh HW hb1;clear hb1;obtain ⟨x0,x1,x2⟩:=cs3 HX1.out)
   | (go_at_call 123;(with_reducible refine CM (hha _ HW1.out) ?_);rintro e w2 ⟨rfl,hb2⟩;clear x0 x1 x2;have HX2:=bkh HX1 hb2;have HR2:=bkh HR1 hb2;have HW2:=blh HW1 hb2;clear hb2;obtain ⟨x0,x1,x2⟩:=cs3 HX2.out)
   | (refine wpList_store_rowTo rfl 121 (.tmp 4) (.tmp 24) rfl rfl (w.heap.size+1) #[.slice A1 a.act.length c1,.slice A2 a.ina.length c2,.slice A3 a.ref.length c3] rfl rfl 121 _ (HR2.out) lru_size rfl (one3 _ _ _ _ _ _ _ _ _) ?_))
  show bodyPost Tryz.prog Tryz.f135 _ _ _ _
  refine bodyPost_ret (lru2_res rfl _ _ (w.heap.size+1) _ _ _ _ _ _ rfl rfl (setRow_heap _ _ _ _ _ _ HR2.out)) rfl ?_
  rw [HQ.out]
  exact ⟨_,_,_,rfl,H.out.step (bl_setRow HW2.out (by omega) _),bl_setRow HW2.out (by omega) _⟩
 | true=>
  have HQ:=H_ (show remL a f=⟨outL a.act f,outL a.ina f,outL a.ref f⟩ by unfold remL;rw [q];rfl)
  rw [q] at hha
  have o1:=fun w' (hb:Below w.heap.size w w') (hz:w.heap.size+2≤w'.heap.size)=>without_w a.act f _ (fun z=>S z∧z≠w.heap.size∧z≠w.heap.size+1) w' ((H.out.1.weak (fun b hb h=>⟨h,by omega,by omega⟩)).step hb) (by omega) (fun b hb'=>⟨HS.out b (Nat.le_trans hb.size hb'),by omega,by omega⟩)
  have o2:=fun w' (hb:Below w.heap.size w w') (hz:w.heap.size+2≤w'.heap.size)=>without_w a.ina f _ (fun z=>S z∧z≠w.heap.size∧z≠w.heap.size+1) w' ((H.out.2.1.weak (fun b hb h=>⟨h,by omega,by omega⟩)).step hb) (by omega) (fun b hb'=>⟨HS.out b (Nat.le_trans hb.size hb'),by omega,by omega⟩)
  have o3:=fun w' (hb:Below w.heap.size w w') (hz:w.heap.size+2≤w'.heap.size)=>without_w a.ref f _ (fun z=>S z∧z≠w.heap.size∧z≠w.heap.size+1) w' ((H.out.2.2.weak (fun b hb h=>⟨h,by omega,by omega⟩)).step hb) (by omega) (fun b hb'=>⟨HS.out b (Nat.le_trans hb.size hb'),by omega,by omega⟩)
  clear q
  go_enter Tryz.func135,Tryz.ntmps135
  go_upto_region 7 with (first
   | (go_at_call 122;(with_reducible refine CM (hck _ HW.out) ?_);rintro e w1 ⟨rfl,hb1⟩;have HX1:=bkh HX hb1;have HR1:=bkh HR hb1;have HW1:=blh HW hb1;clear hb1;obtain ⟨x0,x1,x2⟩:=cs3 HX1.out)
   | (go_at_call 123;(with_reducible refine CM (hha _ HW1.out) ?_);rintro e w2 ⟨rfl,hb2⟩;clear x0 x1 x2;have HX2:=bkh HX1 hb2;have HR2:=bkh HR1 hb2;have HW2:=blh HW1 hb2;clear hb2;obtain ⟨x0,x1,x2⟩:=cs3 HX2.out))
  have hlt:=bk_lt HX2.out
  refine wp_region_sp 12 38 [SP.eq (.pointer (some ⟨w.heap.size,0,none⟩)),SP.eq (.slice A1 a.act.length c1),SP.eq (.int .i64 f),SP.la IntR (fun z=>S z∧z≠w.heap.size∧z≠w.heap.size+1) (outL a.act f),SP.eq (.pointer (some ⟨w.heap.size,1,none⟩)),SP.eq (.slice A2 a.ina.length c2),SP.eq (.int .i64 f),SP.la IntR (fun z=>S z∧z≠w.heap.size∧z≠w.heap.size+1) (outL a.ina f),SP.eq (.pointer (some ⟨w.heap.size,2,none⟩)),SP.eq (.slice A3 a.ref.length c3),SP.eq (.int .i64 f),SP.la IntR (fun z=>S z∧z≠w.heap.size∧z≠w.heap.size+1) (outL a.ref f)] (by kernel_rfl) (by kernel_rfl) rfl ?_
  simp only [List.take_succ_cons,List.take_zero,List.drop_succ_cons,List.drop_zero]
  refine rC (fun x hC hd K hK=>?_) (fun v0=>?_)
  ·go_simp
   exact hK _ _ hC B_ rfl
  simp only [ly]
  refine rC (fun x hC hd K hK=>?_) (fun v1=>?_)
  ·obtain rfl:v0=_:=hd 0 (by kernel_rfl)
   have u0:=(hC.cell (p:=⟨w.heap.size,_,none⟩) hlt).trans x0
   go_simp
   exact hK _ _ hC B_ rfl
  simp only [ly]
  refine rC (fun x hC hd K hK=>?_) (fun v2=>?_)
  ·go_simp
   exact hK _ _ hC B_ rfl
  simp only [ly]
  refine rC (fun x hC hd K hK=>?_) (fun v3=>?_)
  ·obtain rfl:v1=_:=hd 1 (by kernel_rfl)
   obtain rfl:v2=_:=hd 2 (by kernel_rfl)
   go_simp
   go_at_call 66
   refine (o1 x (bl_step HW2.out hC) (by have:=hC.size;have:=bk_lt HR2.out;omega)).mono ?_
   rintro e w9 ⟨u,rfl,hu,hb⟩
   exact hK _ _ (bl_step hC hb) hb hu
  simp only [ly]
  refine rC (fun x hC hd K hK=>?_) (fun v4=>?_)
  ·go_simp
   exact hK _ _ hC B_ rfl
  simp only [ly]
  refine rC (fun x hC hd K hK=>?_) (fun v5=>?_)
  ·obtain rfl:v4=_:=hd 4 (by kernel_rfl)
   have u0:=(hC.cell (p:=⟨w.heap.size,_,none⟩) hlt).trans x1
   go_simp
   exact hK _ _ hC B_ rfl
  simp only [ly]
  refine rC (fun x hC hd K hK=>?_) (fun v6=>?_)
  ·go_simp
   exact hK _ _ hC B_ rfl
  simp only [ly]
  refine rC (fun x hC hd K hK=>?_) (fun v7=>?_)
  ·obtain rfl:v5=_:=hd 5 (by kernel_rfl)
   obtain rfl:v6=_:=hd 6 (by kernel_rfl)
   go_simp
   go_at_call 66
   refine (o2 x (bl_step HW2.out hC) (by have:=hC.size;have:=bk_lt HR2.out;omega)).mono ?_
   rintro e w9 ⟨u,rfl,hu,hb⟩
   exact hK _ _ (bl_step hC hb) hb hu
  simp only [ly]
  refine rC (fun x hC hd K hK=>?_) (fun v8=>?_)
  ·go_simp
   exact hK _ _ hC B_ rfl
  simp only [ly]
  refine rC (fun x hC hd K hK=>?_) (fun v9=>?_)
  ·obtain rfl:v8=_:=hd 8 (by kernel_rfl)
   have u0:=(hC.cell (p:=⟨w.heap.size,_,none⟩) hlt).trans x2
   go_simp
   exact hK _ _ hC B_ rfl
  simp only [ly]
  refine rC (fun x hC hd K hK=>?_) (fun v10=>?_)
  ·go_simp
   exact hK _ _ hC B_ rfl
  simp only [ly]
  refine rC (fun x hC hd K hK=>?_) (fun v11=>?_)
  ·obtain rfl:v9=_:=hd 9 (by kernel_rfl)
   obtain rfl:v10=_:=hd 10 (by kernel_rfl)
   go_simp
   go_at_call 66
   refine (o3 x (bl_step HW2.out hC) (by have:=hC.size;have:=bk_lt HR2.out;omega)).mono ?_
   rintro e w9 ⟨u,rfl,hu,hb⟩
   exact hK _ _ (bl_step hC hb) hb hu
  simp only [ly]
  refine relWalk_nil ?_
  intro w3 hC hG
  have g3:=hG 3 (by omega)
  have g7:=hG 7 (by omega)
  have g11:=hG 11 (by omega)
  obtain ⟨B1,d1,e1,_⟩:=LA.form g3
  obtain ⟨B2,d2,e2,_⟩:=LA.form g7
  obtain ⟨B3,d3,e3,_⟩:=LA.form g11
  obtain rfl:v3=_:=e1
  obtain rfl:v7=_:=e2
  obtain rfl:v11=_:=e3
  have G3:=H_ g3
  have G7:=H_ g7
  have G11:=H_ g11
  have HR3:=bkh HR2 hC
  have HW3:=blh HW2 hC
  clear g3 g7 g11 hG hC x0 x1 x2 hlt
  go_wp2_with (refine wpList_store_rowTo rfl 121 (.tmp 4) (.tmp 37) rfl rfl (w.heap.size+1) #[.slice B1 (outL a.act f).length d1,.slice B2 (outL a.ina f).length d2,.slice B3 (outL a.ref f).length d3] rfl rfl 121 _ (HR3.out) lru_size rfl (one3 _ _ _ _ _ _ _ _ _) ?_)
  show bodyPost Tryz.prog Tryz.f135 _ _ _ _
  refine bodyPost_ret (lru2_res rfl _ _ (w.heap.size+1) _ _ _ _ _ _ rfl rfl (setRow_heap _ _ _ _ _ _ HR3.out)) rfl ?_
  rw [HQ.out]
  have hk:=KeepS.of_setRow (S:=fun z=>S z∧z≠w.heap.size∧z≠w.heap.size+1) w3 (w.heap.size+1) #[.slice B1 (outL a.act f).length d1,.slice B2 (outL a.ina f).length d2,.slice B3 (outL a.ref f).length d3] (fun h=>h.2.2 rfl)
  exact ⟨_,_,_,rfl,⟨(LA.kept G3.out hk).weak (fun _ _ h=>h.1),(LA.kept G7.out hk).weak (fun _ _ h=>h.1),(LA.kept G11.out hk).weak (fun _ _ h=>h.1)⟩,bl_setRow HW3.out (by omega) _⟩
def touchL (a:Lr) (f:Int):Lr:=if hasL a f then (if f ∈ a.ref then (if f ∈ a.ina then ⟨f :: a.act,outL a.ina f,outL a.ref f⟩ else a) else {a with ref:=insL a.ref f}) else a
theorem touch_w (a:Lr) (f:Int) (v1 v2 v3:Value) (S:Nat→Prop) (w:World) (h:LrA w S v1 v2 v3 a) (ok:LruOk a) (hf:1≤f∧f≤64) (hS:∀b,w.heap.size≤b→S b) :
  Calls Tryz.prog 140 #[.agg #[v1,v2,v3],.int .i64 f] w (RetLr (touchL a f) (if hasL a f then 0 else 4) S w):=by
 obtain ⟨l1,l2,l3⟩:=ok.lens
 obtain ⟨A1,c1,rfl,p1,p2⟩:=h.1.form
 obtain ⟨A2,c2,rfl,p3,p4⟩:=h.2.1.form
 obtain ⟨A3,c3,rfl,p5,p6⟩:=h.2.2.form
 have hck:=fun w' (hb:Below w.heap.size w w')=>lruCheck_w a _ _ _ S w' (h.step hb) ok
 have hha:=fun w' (hb:Below w.heap.size w w')=>has_w a f _ _ _ S w' (h.step hb)
 have HX:=H_ (bk_alloc (heap_alloc_at w (.cells #[.slice A1 a.act.length c1,.slice A2 a.ina.length c2,.slice A3 a.ref.length c3] 121)) (.cells #[.slice none 0 0,.slice none 0 0,.slice none 0 0] 121))
 have HR:=H_ (heap_at_new (w.alloc (.cells #[.slice A1 a.act.length c1,.slice A2 a.ina.length c2,.slice A3 a.ref.length c3] 121)) (.cells #[.slice none 0 0,.slice none 0 0,.slice none 0 0] 121) (w.heap.size+1) (by simp))
 have HW:=H_ (bl_alloc (bl_alloc (Below.refl w.heap.size w) (.cells #[.slice A1 a.act.length c1,.slice A2 a.ina.length c2,.slice A3 a.ref.length c3] 121)) (.cells #[.slice none 0 0,.slice none 0 0,.slice none 0 0] 121))
 have H:=H_ h
 have HS:=H_ hS
 have q1:decide (f<1)=false:=dF (by omega)
 have q2:decide (64<f)=false:=dF (by omega)
 clear p1 p2 p3 p4 p5 p6 h hS hf ok
 cases q:hasL a f with
 | false=>
  have HQ:=H_ (show touchL a f=a by unfold touchL;rw [q];rfl)
  rw [q] at hha
  clear q
  go_enter Tryz.func140,Tryz.ntmps140
  go_wp2_with (first
   | (go_at_call 122;(with_reducible refine CM (hck _ HW.out) ?_);rintro e w1 ⟨rfl,hb1⟩;have HX1:=bkh HX hb1;have HR1:=bkh HR hb1;have HW1:=blh HW hb1;clear hb1;obtain ⟨x0,x1,x2⟩:=cs3 HX1.out)
   | (go_at_call 123;(with_reducible refine CM (hha _ HW1.out) ?_);rintro e w2 ⟨rfl,hb2⟩;clear x0 x1 x2;have HX2:=bkh HX1 hb2;have HR2:=bkh HR1 hb2;have HW2:=blh HW1 hb2;clear hb2;obtain ⟨x0,x1,x2⟩:=cs3 HX2.out)
   | (refine wpList_store_rowTo rfl 121 (.tmp 4) (.tmp 24) rfl rfl (w.heap.size+1) #[.slice A1 a.act.length c1,.slice A2 a.ina.length c2,.slice A3 a.ref.length c3] rfl rfl 121 _ (HR2.out) lru_size rfl (one3 _ _ _ _ _ _ _ _ _) ?_))
  show bodyPost Tryz.prog Tryz.f140 _ _ _ _
  refine bodyPost_ret (lru2_res rfl _ _ (w.heap.size+1) _ _ _ _ _ _ rfl rfl (setRow_heap _ _ _ _ _ _ HR2.out)) rfl ?_
  rw [HQ.out]
  exact ⟨_,_,_,rfl,H.out.step (bl_setRow HW2.out (by omega) _),bl_setRow HW2.out (by omega) _⟩
 | true=>
  rw [q] at hha
  have a3:=fun w' (hb:Below w.heap.size w w')=>at_w a.ref f _ S w' (H.out.2.2.step hb)
  by_cases hr:f ∈ a.ref
  ·have p3:=atL_pos hr
   generalize atL a.ref f=z at a3 p3
   have a2:=fun w' (hb:Below w.heap.size w w')=>at_w a.ina f _ S w' (H.out.2.1.step hb)
   by_cases hi:f ∈ a.ina
   ·have HQ:=H_ (show touchL a f=⟨f :: a.act,outL a.ina f,outL a.ref f⟩ by unfold touchL;rw [if_pos q,if_pos hr,if_pos hi])
    have p2:=atL_pos hi
    generalize atL a.ina f=y at a2 p2
    have o1:=fun w' (hb:Below w.heap.size w w') (hz:w.heap.size+2≤w'.heap.size)=>front_w a.act f _ (fun z=>S z∧z≠w.heap.size∧z≠w.heap.size+1) w' ((H.out.1.weak (fun b hb h=>⟨h,by omega,by omega⟩)).step hb) (by omega) (fun b hb'=>⟨HS.out b (Nat.le_trans hb.size hb'),by omega,by omega⟩)
    have o2:=fun w' (hb:Below w.heap.size w w') (hz:w.heap.size+2≤w'.heap.size)=>without_w a.ina f _ (fun z=>S z∧z≠w.heap.size∧z≠w.heap.size+1) w' ((H.out.2.1.weak (fun b hb h=>⟨h,by omega,by omega⟩)).step hb) (by omega) (fun b hb'=>⟨HS.out b (Nat.le_trans hb.size hb'),by omega,by omega⟩)
    have o3:=fun w' (hb:Below w.heap.size w w') (hz:w.heap.size+2≤w'.heap.size)=>without_w a.ref f _ (fun z=>S z∧z≠w.heap.size∧z≠w.heap.size+1) w' ((H.out.2.2.weak (fun b hb h=>⟨h,by omega,by omega⟩)).step hb) (by omega) (fun b hb'=>⟨HS.out b (Nat.le_trans hb.size hb'),by omega,by omega⟩)
    clear q hr hi
    go_enter Tryz.func140,Tryz.ntmps140
    go_upto_region 10 with (first
     | (go_at_call 122;(with_reducible refine CM (hck _ HW.out) ?_);rintro e w1 ⟨rfl,hb1⟩;have HX1:=bkh HX hb1;have HR1:=bkh HR hb1;have HW1:=blh HW hb1;clear hb1;obtain ⟨x0,x1,x2⟩:=cs3 HX1.out)
     | (go_at_call 123;(with_reducible refine CM (hha _ HW1.out) ?_);rintro e w2 ⟨rfl,hb2⟩;clear x0 x1 x2;have HX2:=bkh HX1 hb2;have HR2:=bkh HR1 hb2;have HW2:=blh HW1 hb2;clear hb2;obtain ⟨x0,x1,x2⟩:=cs3 HX2.out)
     | (go_at_call 35;(with_reducible refine CM (a3 _ HW2.out) ?_);rintro e w' ⟨rfl,rfl⟩)
     | (go_at_call 35;(with_reducible refine CM (a2 _ HW2.out) ?_);rintro e w' ⟨rfl,rfl⟩))
    have hlt:=bk_lt HX2.out
    refine wp_region_sp 12 56 [SP.eq (.pointer (some ⟨w.heap.size,0,none⟩)),SP.eq (.slice A1 a.act.length c1),SP.eq (.int .i64 f),SP.la IntR (fun z=>S z∧z≠w.heap.size∧z≠w.heap.size+1) (f :: a.act),SP.eq (.pointer (some ⟨w.heap.size,1,none⟩)),SP.eq (.slice A2 a.ina.length c2),SP.eq (.int .i64 f),SP.la IntR (fun z=>S z∧z≠w.heap.size∧z≠w.heap.size+1) (outL a.ina f),SP.eq (.pointer (some ⟨w.heap.size,2,none⟩)),SP.eq (.slice A3 a.ref.length c3),SP.eq (.int .i64 f),SP.la IntR (fun z=>S z∧z≠w.heap.size∧z≠w.heap.size+1) (outL a.ref f)] (by kernel_rfl) (by kernel_rfl) rfl ?_
    simp only [List.take_succ_cons,List.take_zero,List.drop_succ_cons,List.drop_zero]
    refine rC (fun x hC hd K hK=>?_) (fun v0=>?_)
    ·go_simp
     exact hK _ _ hC B_ rfl
    simp only [ly]
    refine rC (fun x hC hd K hK=>?_) (fun v1=>?_)
    ·obtain rfl:v0=_:=hd 0 (by kernel_rfl)
     have u0:=(hC.cell (p:=⟨w.heap.size,_,none⟩) hlt).trans x0
     go_simp
     exact hK _ _ hC B_ rfl
    simp only [ly]
    refine rC (fun x hC hd K hK=>?_) (fun v2=>?_)
    ·go_simp
     exact hK _ _ hC B_ rfl
    simp only [ly]
    refine rC (fun x hC hd K hK=>?_) (fun v3=>?_)
    ·obtain rfl:v1=_:=hd 1 (by kernel_rfl)
     obtain rfl:v2=_:=hd 2 (by kernel_rfl)
     go_simp
     go_at_call 124
     refine (o1 x (bl_step HW2.out hC) (by have:=hC.size;have:=bk_lt HR2.out;omega)).mono ?_
     rintro e w9 ⟨u,rfl,hu,hb⟩
     exact hK _ _ (bl_step hC hb) hb hu
    simp only [ly]
    refine rC (fun x hC hd K hK=>?_) (fun v4=>?_)
    ·go_simp
     exact hK _ _ hC B_ rfl
    simp only [ly]
    refine rC (fun x hC hd K hK=>?_) (fun v5=>?_)
    ·obtain rfl:v4=_:=hd 4 (by kernel_rfl)
     have u0:=(hC.cell (p:=⟨w.heap.size,_,none⟩) hlt).trans x1
     go_simp
     exact hK _ _ hC B_ rfl
    simp only [ly]
    refine rC (fun x hC hd K hK=>?_) (fun v6=>?_)
    ·go_simp
     exact hK _ _ hC B_ rfl
    simp only [ly]
    refine rC (fun x hC hd K hK=>?_) (fun v7=>?_)
    ·obtain rfl:v5=_:=hd 5 (by kernel_rfl)
     obtain rfl:v6=_:=hd 6 (by kernel_rfl)
     go_simp
     go_at_call 66
     refine (o2 x (bl_step HW2.out hC) (by have:=hC.size;have:=bk_lt HR2.out;omega)).mono ?_
     rintro e w9 ⟨u,rfl,hu,hb⟩
     exact hK _ _ (bl_step hC hb) hb hu
    simp only [ly]
    refine rC (fun x hC hd K hK=>?_) (fun v8=>?_)
    ·go_simp
     exact hK _ _ hC B_ rfl
    simp only [ly]
    refine rC (fun x hC hd K hK=>?_) (fun v9=>?_)
    ·obtain rfl:v8=_:=hd 8 (by kernel_rfl)
     have u0:=(hC.cell (p:=⟨w.heap.size,_,none⟩) hlt).trans x2
     go_simp
     exact hK _ _ hC B_ rfl
    simp only [ly]
    refine rC (fun x hC hd K hK=>?_) (fun v10=>?_)
    ·go_simp
     exact hK _ _ hC B_ rfl
    simp only [ly]
    refine rC (fun x hC hd K hK=>?_) (fun v11=>?_)
    ·obtain rfl:v9=_:=hd 9 (by kernel_rfl)
     obtain rfl:v10=_:=hd 10 (by kernel_rfl)
     go_simp
     go_at_call 66
     refine (o3 x (bl_step HW2.out hC) (by have:=hC.size;have:=bk_lt HR2.out;omega)).mono ?_
     rintro e w9 ⟨u,rfl,hu,hb⟩
     exact hK _ _ (bl_step hC hb) hb hu
    simp only [ly]
    refine relWalk_nil ?_
    intro w3 hC hG
    have g3:=hG 3 (by omega)
    have g7:=hG 7 (by omega)
    have g11:=hG 11 (by omega)
    obtain ⟨B1,d1,e1,_⟩:=LA.form g3
    obtain ⟨B2,d2,e2,_⟩:=LA.form g7
    obtain ⟨B3,d3,e3,_⟩:=LA.form g11
    obtain ⟨n1,hn1⟩:∃n1,n1=(f :: a.act).length:=⟨_,rfl⟩
    rw [←hn1] at e1
    clear hn1
    obtain rfl:v3=_:=e1
    obtain rfl:v7=_:=e2
    obtain rfl:v11=_:=e3
    have G3:=H_ g3
    have G7:=H_ g7
    have G11:=H_ g11
    have HX3:=bkh HX2 hC
    have HR3:=bkh HR2 hC
    have HW3:=blh HW2 hC
    clear g3 g7 g11 hG hC x0 x1 x2 hlt
    go_wp2_with (first
     | ((refine wpList_store_rowTo rfl 121 (.tmp 2) (.tmp 54) rfl rfl (w.heap.size) #[.slice B1 n1 d1,.slice B2 (outL a.ina f).length d2,.slice B3 (outL a.ref f).length d3] rfl rfl 121 _ (HX3.out) lru_size rfl (one3 _ _ _ _ _ _ _ _ _) ?_);have HX4:=H_ (show (w3.setRow w.heap.size #[.slice B1 n1 d1,.slice B2 (outL a.ina f).length d2,.slice B3 (outL a.ref f).length d3]).heap[w.heap.size]?=some (.cells #[.slice B1 n1 d1,.slice B2 (outL a.ina f).length d2,.slice B3 (outL a.ref f).length d3] 121 (0,0)) from setRow_heap _ _ _ _ _ _ HX3.out);have HR4:=H_ ((setRow_other w3 w.heap.size (w.heap.size+1) #[.slice B1 n1 d1,.slice B2 (outL a.ina f).length d2,.slice B3 (outL a.ref f).length d3] (by omega)).trans HR3.out);obtain ⟨x0,x1,x2⟩:=cs3 HX4.out)
     | (refine wpList_store_rowTo rfl 121 (.tmp 4) (.tmp 55) rfl rfl (w.heap.size+1) #[.slice B1 n1 d1,.slice B2 (outL a.ina f).length d2,.slice B3 (outL a.ref f).length d3] rfl rfl 121 _ (HR4.out) lru_size rfl (one3 _ _ _ _ _ _ _ _ _) ?_))
    show bodyPost Tryz.prog Tryz.f140 _ _ _ _
    refine bodyPost_ret (lru2_res rfl _ _ (w.heap.size+1) _ _ _ _ _ _ rfl rfl (setRow_heap _ _ _ _ _ _ HR4.out)) rfl ?_
    rw [HQ.out]
    have hk:=(KeepS.of_setRow (S:=fun z=>S z∧z≠w.heap.size∧z≠w.heap.size+1) w3 w.heap.size #[.slice B1 n1 d1,.slice B2 (outL a.ina f).length d2,.slice B3 (outL a.ref f).length d3] (fun h=>h.2.1 rfl)).trans (KeepS.of_setRow _ (w.heap.size+1) #[.slice B1 n1 d1,.slice B2 (outL a.ina f).length d2,.slice B3 (outL a.ref f).length d3] (fun h=>h.2.2 rfl))
    exact ⟨_,_,_,rfl,⟨(LA.kept G3.out hk).weak (fun _ _ h=>h.1),(LA.kept G7.out hk).weak (fun _ _ h=>h.1),(LA.kept G11.out hk).weak (fun _ _ h=>h.1)⟩,bl_setRow (bl_setRow HW3.out (by omega) _) (by omega) _⟩
   ·have HQ:=H_ (show touchL a f=a by unfold touchL;rw [if_pos q,if_pos hr,if_neg hi])
    rw [atL_out hi] at a2
    clear q hr hi
    go_enter Tryz.func140,Tryz.ntmps140
    go_wp2_with (first
     | (go_at_call 122;(with_reducible refine CM (hck _ HW.out) ?_);rintro e w1 ⟨rfl,hb1⟩;have HX1:=bkh HX hb1;have HR1:=bkh HR hb1;have HW1:=blh HW hb1;clear hb1;obtain ⟨x0,x1,x2⟩:=cs3 HX1.out)
     | (go_at_call 123;(with_reducible refine CM (hha _ HW1.out) ?_);rintro e w2 ⟨rfl,hb2⟩;clear x0 x1 x2;have HX2:=bkh HX1 hb2;have HR2:=bkh HR1 hb2;have HW2:=blh HW1 hb2;clear hb2;obtain ⟨x0,x1,x2⟩:=cs3 HX2.out)
     | (go_at_call 35;(with_reducible refine CM (a3 _ HW2.out) ?_);rintro e w' ⟨rfl,rfl⟩)
     | (go_at_call 35;(with_reducible refine CM (a2 _ HW2.out) ?_);rintro e w' ⟨rfl,rfl⟩)
     | (refine wpList_store_rowTo rfl 121 (.tmp 4) (.tmp 55) rfl rfl (w.heap.size+1) #[.slice A1 a.act.length c1,.slice A2 a.ina.length c2,.slice A3 a.ref.length c3] rfl rfl 121 _ (HR2.out) lru_size rfl (one3 _ _ _ _ _ _ _ _ _) ?_))
    show bodyPost Tryz.prog Tryz.f140 _ _ _ _
    refine bodyPost_ret (lru2_res rfl _ _ (w.heap.size+1) _ _ _ _ _ _ rfl rfl (setRow_heap _ _ _ _ _ _ HR2.out)) rfl ?_
    rw [HQ.out]
    exact ⟨_,_,_,rfl,H.out.step (bl_setRow HW2.out (by omega) _),bl_setRow HW2.out (by omega) _⟩
  ·have HQ:=H_ (show touchL a f={a with ref:=insL a.ref f} by unfold touchL;rw [if_pos q,if_neg hr])
   rw [atL_out hr] at a3
   have o3:=fun w' (hb:Below w.heap.size w w') (hz:w.heap.size+2≤w'.heap.size)=>insert_w a.ref f _ (fun z=>S z∧z≠w.heap.size∧z≠w.heap.size+1) w' ((H.out.2.2.weak (fun b hb h=>⟨h,by omega,by omega⟩)).step hb) (by omega) (fun b hb'=>⟨HS.out b (Nat.le_trans hb.size hb'),by omega,by omega⟩)
   clear q hr
   go_enter Tryz.func140,Tryz.ntmps140
   go_wp2_with (first
    | (go_at_call 122;(with_reducible refine CM (hck _ HW.out) ?_);rintro e w1 ⟨rfl,hb1⟩;have HX1:=bkh HX hb1;have HR1:=bkh HR hb1;have HW1:=blh HW hb1;clear hb1;obtain ⟨x0,x1,x2⟩:=cs3 HX1.out)
    | (go_at_call 123;(with_reducible refine CM (hha _ HW1.out) ?_);rintro e w2 ⟨rfl,hb2⟩;clear x0 x1 x2;have HX2:=bkh HX1 hb2;have HR2:=bkh HR1 hb2;have HW2:=blh HW1 hb2;clear hb2;obtain ⟨x0,x1,x2⟩:=cs3 HX2.out)
    | (go_at_call 35;(with_reducible refine CM (a3 _ HW2.out) ?_);rintro e w' ⟨rfl,rfl⟩)
    | (go_at_call 163;(with_reducible refine CM (o3 _ HW2.out (by have:=bk_lt HR2.out;omega)) ?_);rintro e w3 ⟨u,rfl,hu,hb3⟩;obtain ⟨Au,cu,rfl,_,_⟩:=hu.form;clear x0 x1 x2;have HX3:=bkh HX2 hb3;have HR3:=bkh HR2 hb3;have HW3:=blh HW2 hb3;have HU:=H_ hu;clear hb3 hu;obtain ⟨x0,x1,x2⟩:=cs3 HX3.out;have f0:=free_at HX3.out 0;have f1:=free_at HX3.out 1;have f2:=free_at HX3.out 2)
    | (refine wpList_store_rowTo rfl 121 (.tmp 4) (.tmp 55) rfl rfl (w.heap.size+1) #[.slice A1 a.act.length c1,.slice A2 a.ina.length c2,.slice Au (insL a.ref f).length cu] rfl rfl 121 _ (set_bk HR3.out _ _ (by simp)) lru_size rfl (one3 _ _ _ _ _ _ _ _ _) ?_))
   show bodyPost Tryz.prog Tryz.f140 _ _ _ _
   refine bodyPost_ret (lru2_res rfl _ _ (w.heap.size+1) _ _ _ _ _ _ rfl rfl (setRow_heap _ _ _ _ _ _ (set_bk HR3.out _ _ (by simp)))) rfl ?_
   rw [HQ.out]
   have hbw:=bl_setRow (g:=w.heap.size+1) (bl_set HW3.out ⟨w.heap.size,2,none⟩ (.slice Au (insL a.ref f).length cu) (Nat.le_refl _)) (by omega) #[.slice A1 a.act.length c1,.slice A2 a.ina.length c2,.slice Au (insL a.ref f).length cu]
   exact ⟨_,_,_,rfl,⟨H.out.1.step hbw,H.out.2.1.step hbw,((HU.out.kept (KeepS.of_setCell w3 ⟨w.heap.size,2,none⟩ _ (fun h=>h.2.1 rfl))).kept (KeepS.of_setRow _ _ _ (fun h=>h.2.2 rfl))).weak (fun _ _ h=>h.1)⟩,hbw⟩
end
section
structure Gr where
 limit:Int
 protect:Int
 charge:Int
def Gr.row (g:Gr):List Value:=[.int .i64 g.limit,.int .i64 g.protect,.int .i64 g.charge]
def GrR:RR Gr 3:=RR.flat Gr.row (fun a=>⟨rfl,fun u hu=>by
 simp only [Gr.row,List.mem_cons,List.not_mem_nil,or_false] at hu
 rcases hu with rfl | rfl | rfl <;> rfl⟩)
theorem gr_info:(Tryz.prog.info? 57).map (fun i=>(i.zero,i.size,i.bytes))=some (some (.agg #[.int .i64 0,.int .i64 0,.int .i64 0]),3,24):=by kernel_rfl
theorem gr_el:Elem Tryz.prog 26 57 3:=by
 obtain ⟨i,h1,h2,h3,h4⟩:=info_parts gr_info
 exact ⟨i,_,24,Tryz.underlying26,h1,h2,h3,h4,rfl,by omega,by omega⟩
structure GrsOk (L:List Gr):Prop where
 each:∀g ∈ L,1≤g.limit∧g.limit≤64∧0≤g.protect∧g.protect≤g.limit∧0≤g.charge∧g.charge≤64
 pos:1≤L.length
 few:L.length≤4
theorem GrA.cells {w:World} {S:Nat→Prop} {A:Option Addr} {n cap:Nat} {L:List Gr} (h:LA GrR w S (.slice A n cap) L) {i:Nat} {g:Gr} (hi:L[i]?=some g):∃b o,A=some ⟨b,o,none⟩∧b<w.heap.size∧
  w.cell? ⟨b,o+i*3,none⟩=some (.int .i64 g.limit)∧w.cell? ⟨b,o+i*3+1,none⟩=some (.int .i64 g.protect)∧w.cell? ⟨b,o+i*3+2,none⟩=some (.int .i64 g.charge):=by
 obtain ⟨b,o,cap',r,hv,c1,c2,hb,hS,hp,hc⟩:=h.at_ hi
 injection hv with e1 _ _
 have hp:r=g.row:=hp
 subst hp
 exact ⟨b,o,e1,hb,hc 0 _ rfl,hc 1 _ rfl,hc 2 _ rfl⟩
theorem grsCheck_w (L:List Gr) (v:Value) (S:Nat→Prop) (w:World) (h:LA GrR w S v L) (ok:GrsOk L):Calls Tryz.prog 42 #[v] w (RetB true w):=by
 obtain ⟨A,cap,rfl,hc1,hc2⟩:=h.form
 obtain ⟨ok1,l1,l2⟩:=ok
 have H:=H_ h
 have OK:=H_ ok1
 have n1:(1:Int)≤(L.length:Int):=by omega
 have n2:(L.length:Int)≤4:=by omega
 unfold maxLen at hc2
 clear h ok1
 go_enter Tryz.func42,Tryz.ntmps42
 go_wp2
 go_loopw [3] (fun i wx=>∃k:Nat,i = .int .i64 k∧k≤L.length∧Below w.heap.size w wx) (fun i _=>L.length - (intOf i).toNat)
 case atStart=>exact ⟨0,rfl,by omega,Below.refl _ _⟩
 case round=>
  obtain ⟨k,rfl,hk,hb⟩:=hrel
  have HB:=H_ hb
  clear hb
  by_cases hlt:k<L.length
  ·obtain ⟨x,hx⟩:∃x,L[k]?=some x:=⟨_,List.getElem?_eq_getElem hlt⟩
   obtain ⟨b,o,rfl,hbl,c0,c1,c2⟩:=GrA.cells (H.out.step HB.out) hx
   obtain ⟨r1,r2,r3,r4,r5,r6⟩:=OK.out x (List.mem_of_getElem? hx)
   obtain ⟨li,pr,ch⟩:=x
   dsimp only at c0 c1 c2 r1 r2 r3 r4 r5 r6
   have d1:decide (li<1)=false:=dF (by omega)
   have d2:decide (64<li)=false:=dF (by omega)
   have d3:decide (pr<0)=false:=dF (by omega)
   have d4:decide (li<pr)=false:=dF (by omega)
   have d5:decide (ch<0)=false:=dF (by omega)
   have d6:decide (64<ch)=false:=dF (by omega)
   clear hx
   go_wp2
   go_roundw
   case rel=>exact ⟨k+1,by go_num,by omega,bl_alloc HB.out _⟩
   case measure=>simp [intOf];omega
  ·obtain rfl:k=L.length:=by omega
   go_wp2
   go_ret
   exact ⟨rfl,HB.out⟩
def RetGs (L:List Gr) (S:Nat→Prop) (w:World) (e:Ending) (w':World):Prop:=∃v,e = .returned v∧LA GrR w' S v L∧Below w.heap.size w w'
def RetGE (L:List Gr) (err:Int) (S:Nat→Prop) (w:World) (e:Ending) (w':World):Prop:=∃v,e = .returned (.tuple #[v,.int .i64 err])∧LA GrR w' S v L∧Below w.heap.size w w'
theorem charged_w (L:List Gr) (i:Nat) (g:Gr) (n:Int) (v:Value) (S:Nat→Prop) (w:World) (h:LA GrR w S v L) (hi:L[i]?=some g) (hl:L.length≤100) (hS:∀b,w.heap.size≤b→S b) :
  Calls Tryz.prog 117 #[v,.int .i64 i,.int .i64 n] w (RetGs (L.set i {g with charge:=n}) S w):=by
 obtain ⟨A,cap,rfl,hc1,hc2⟩:=h.form
 have hil:=(g_l hi)
 have H:=H_ h
 have HI:=H_ hi
 have HS:=H_ hS
 have i0:(0:Int)≤(i:Int):=by omega
 have i1:(i:Int)<(L.length:Int):=by omega
 clear h hi hS
 go_enter Tryz.func117,Tryz.ntmps117
 go_wp2_with (at_builtin;go_loud (refine wpList_copy GrR gr_el rfl _ _ rfl rfl _ S L rfl H.out (by omega) ?_);intro v4 w4 hown4 hg4;obtain ⟨G,cp,rfl,q1,q2,q3,hlw⟩:=hown4.lw (by omega);obtain ⟨⟨uo,x0⟩,f0⟩:=hlw.slot (i:=i) (p:=2) hil (by omega);have HW:=H_ hlw;have HG:=H_ hg4;clear hown4 hlw hg4)
 go_ret
 have hb:=(Below.refl w.heap.size w).grown HG.out (Nat.le_refl _) (fun b hb=>by cases hb)
 have hl2:=HW.out.setOne (i:=i) (p:=2) (a:=g) (a':={g with charge:=n}) (v:= .int .i64 n) HI.out (by omega) rfl (fun r hr=>by
  have hr:r=g.row:=hr
  subst hr
  rfl)
 exact ⟨_,rfl,by
  have:=hl2.la (S':=S) (cap:=cp) (HS.out G (by omega)) (fun b _ h=>h.1) (by rw [List.length_set];exact q1) q2
  rw [List.length_set] at this
  exact this,bl_set hb _ _ q3⟩
def chargeL (L:List Gr) (i:Nat) (g:Gr) (n:Int):List Gr × Int:=if g.limit - g.charge<n then (L,3) else (L.set i {g with charge:=g.charge+n},0)
def unchargeL (L:List Gr) (i:Nat) (g:Gr) (n:Int):List Gr × Int:=if g.charge<n then (L,4) else (L.set i {g with charge:=g.charge - n},0)
theorem charge_w (L:List Gr) (i:Nat) (g:Gr) (n:Int) (v:Value) (S:Nat→Prop) (w:World) (h:LA GrR w S v L) (hi:L[i]?=some g) (ok:GrsOk L) (hn:0≤n∧n≤64) (hS:∀b,w.heap.size≤b→S b) :
  Calls Tryz.prog 67 #[v,.int .i64 i,.int .i64 n] w (RetGE (chargeL L i g n).1 (chargeL L i g n).2 S w):=by
 obtain ⟨A,cap,rfl,hc1,hc2⟩:=h.form
 have hil:=(g_l hi)
 obtain ⟨r1,r2,r3,r4,r5,r6⟩:=ok.each g (List.mem_of_getElem? hi)
 have hck:=fun w' (hb:Below w.heap.size w w')=>grsCheck_w L _ S w' (h.step hb) ok
 have hcd:=fun (m:Int) w' (hb:Below w.heap.size w w')=>charged_w L i g m _ S w' (h.step hb) hi (by have:=ok.few;omega) (fun b hb'=>hS b (Nat.le_trans hb.size hb'))
 have H:=H_ h
 have HI:=H_ hi
 have i0:(0:Int)≤(i:Int):=by omega
 have i1:(i:Int)<(L.length:Int):=by omega
 have d0:decide (n<0)=false:=dF (by omega)
 have d1:decide (64<n)=false:=dF (by omega)
 clear h hi hS ok
 obtain ⟨li,pr,ch⟩:=g
 dsimp only at r1 r2 r3 r4 r5 r6
 have w1:IntKind.i64.wrap (li - ch)=li - ch:=w64 (by omega)
 by_cases q:li - ch<n
 ·have HQ:=H_ (show chargeL L i ⟨li,pr,ch⟩ n=(L,3) by unfold chargeL;rw [if_pos q])
  clear hcd
  go_enter Tryz.func67,Tryz.ntmps67
  go_upto_region 5 with (go_at_call 42;(with_reducible refine CM (hck _ B_) ?_);rintro e w1 ⟨rfl,hb1⟩;obtain ⟨b,o,rfl,hbl,c0,c1,c2⟩:=GrA.cells (H.out.step hb1) HI.out;dsimp only at c0 c1 c2;have HB1:=H_ hb1;clear hb1)
  go_quiet (fail)
  go_wp2
  go_ret2
  rw [HQ.out]
  exact ⟨_,rfl,H.out.step (below_drewN HB1.out _),below_drewN HB1.out _⟩
 ·have HQ:=H_ (show chargeL L i ⟨li,pr,ch⟩ n=(L.set i {limit:=li,protect:=pr,charge:=ch+n},0) by unfold chargeL;rw [if_neg q])
  go_enter Tryz.func67,Tryz.ntmps67
  go_upto_region 5 with (go_at_call 42;(with_reducible refine CM (hck _ B_) ?_);rintro e w1 ⟨rfl,hb1⟩;obtain ⟨b,o,rfl,hbl,c0,c1,c2⟩:=GrA.cells (H.out.step hb1) HI.out;dsimp only at c0 c1 c2;have HB1:=H_ hb1;clear hb1)
  go_quiet (fail)
  go_wp2_with (go_at_call 117;(with_reducible refine CM (hcd _ _ (below_drewN HB1.out _)) ?_);rintro e w2 ⟨u,rfl,hu,hb2⟩)
  go_ret2
  rw [HQ.out]
  exact ⟨_,rfl,hu,bl_step (below_drewN HB1.out _) hb2⟩
theorem uncharge_w (L:List Gr) (i:Nat) (g:Gr) (n:Int) (v:Value) (S:Nat→Prop) (w:World) (h:LA GrR w S v L) (hi:L[i]?=some g) (ok:GrsOk L) (hn:0≤n∧n≤64) (hS:∀b,w.heap.size≤b→S b) :
  Calls Tryz.prog 136 #[v,.int .i64 i,.int .i64 n] w (RetGE (unchargeL L i g n).1 (unchargeL L i g n).2 S w):=by
 obtain ⟨A,cap,rfl,hc1,hc2⟩:=h.form
 have hil:=(g_l hi)
 obtain ⟨r1,r2,r3,r4,r5,r6⟩:=ok.each g (List.mem_of_getElem? hi)
 have hck:=fun w' (hb:Below w.heap.size w w')=>grsCheck_w L _ S w' (h.step hb) ok
 have hcd:=fun (m:Int) w' (hb:Below w.heap.size w w')=>charged_w L i g m _ S w' (h.step hb) hi (by have:=ok.few;omega) (fun b hb'=>hS b (Nat.le_trans hb.size hb'))
 have H:=H_ h
 have HI:=H_ hi
 have i0:(0:Int)≤(i:Int):=by omega
 have i1:(i:Int)<(L.length:Int):=by omega
 have d0:decide (n<0)=false:=dF (by omega)
 have d1:decide (64<n)=false:=dF (by omega)
 clear h hi hS ok
 obtain ⟨li,pr,ch⟩:=g
 dsimp only at r1 r2 r3 r4 r5 r6
 by_cases q:ch<n
 ·have HQ:=H_ (show unchargeL L i ⟨li,pr,ch⟩ n=(L,4) by unfold unchargeL;rw [if_pos q])
  clear hcd
  go_enter Tryz.func136,Tryz.ntmps136
  go_wp2_with (go_at_call 42;(with_reducible refine CM (hck _ B_) ?_);rintro e w1 ⟨rfl,hb1⟩;obtain ⟨b,o,rfl,hbl,c0,c1,c2⟩:=GrA.cells (H.out.step hb1) HI.out;dsimp only at c0 c1 c2;have HB1:=H_ hb1;clear hb1)
  go_ret2
  rw [HQ.out]
  exact ⟨_,rfl,H.out.step HB1.out,HB1.out⟩
 ·have HQ:=H_ (show unchargeL L i ⟨li,pr,ch⟩ n=(L.set i {limit:=li,protect:=pr,charge:=ch - n},0) by unfold unchargeL;rw [if_neg q])
  go_enter Tryz.func136,Tryz.ntmps136
  go_wp2_with (first
   | (go_at_call 42;(with_reducible refine CM (hck _ B_) ?_);rintro e w1 ⟨rfl,hb1⟩;obtain ⟨b,o,rfl,hbl,c0,c1,c2⟩:=GrA.cells (H.out.step hb1) HI.out;dsimp only at c0 c1 c2;have HB1:=H_ hb1;clear hb1)
   | (go_at_call 117;(with_reducible refine CM (hcd _ _ HB1.out) ?_);rintro e w2 ⟨u,rfl,hu,hb2⟩))
  go_ret2
  rw [HQ.out]
  exact ⟨_,rfl,hu,bl_step HB1.out hb2⟩
end
section
structure Pt where
 proc:Int
 page:Int
 frame:Int
 wr:Bool
 acc:Bool
def Pt.row (p:Pt):List Value:=[.int .i64 p.proc,.int .i64 p.page,.int .i64 p.frame,.bool p.wr,.bool p.acc]
def PtR:RR Pt 5:=RR.flat Pt.row (fun a=>⟨rfl,fun u hu=>by
 simp only [Pt.row,List.mem_cons,List.not_mem_nil,or_false] at hu
 rcases hu with rfl | rfl | rfl | rfl | rfl <;> rfl⟩)
abbrev ptV (a b c:Int) (d e:Bool):Value:= .agg #[.int .i64 a,.int .i64 b,.int .i64 c,.bool d,.bool e]
theorem pt_info:(Tryz.prog.info? 163).map (fun i=>(i.zero,i.size,i.bytes))=some (some (.agg #[.int .i64 0,.int .i64 0,.int .i64 0,.bool false,.bool false]),5,32):=by kernel_rfl
theorem pt_el:Elem Tryz.prog 28 163 5:=by
 obtain ⟨i,h1,h2,h3,h4⟩:=info_parts pt_info
 exact ⟨i,_,32,Tryz.underlying28,h1,h2,h3,h4,rfl,by omega,by omega⟩
def rightP (p:Pt):Prop:=0≤p.proc∧p.proc<8∧0≤p.page∧p.page<64∧1≤p.frame∧p.frame≤64
def lessP (a b:Pt):Bool:=decide (a.proc<b.proc∨(a.proc=b.proc∧a.page<b.page))
structure PtsOk (L:List Pt):Prop where
 each:∀p ∈ L,rightP p
 asc:L.Pairwise (fun a b=>lessP a b=true)
theorem PtsOk.len {L:List Pt} (h:PtsOk L):L.length≤512:=by
 have hp:(L.map (fun p=>p.proc*64+p.page+1)).Nodup:=by
  show List.Pairwise (fun a b=>a≠b) _
  rw [List.pairwise_map]
  have h1:L.Pairwise (fun a b=>rightP a∧rightP b∧lessP a b=true):=by
   have:=h.asc
   rw [List.pairwise_iff_getElem] at this ⊢
   intro i j hi hj hij
   exact ⟨h.each _ (List.getElem_mem hi),h.each _ (List.getElem_mem hj),this i j hi hj hij⟩
  refine h1.imp fun {a b} hab=>?_
  obtain ⟨⟨a1,a2,a3,a4,_⟩,⟨b1,b2,b3,b4,_⟩,hl⟩:=hab
  have hl:=of_decide_eq_true hl
  omega
 have:=pigeon 512 _ hp (fun x hx=>by
  obtain ⟨p,hm,rfl⟩:=List.mem_map.1 hx
  obtain ⟨a1,a2,a3,a4,_⟩:=h.each p hm
  omega)
 rwa [List.length_map] at this
theorem PtA.cells {w:World} {S:Nat→Prop} {A:Option Addr} {n cap:Nat} {L:List Pt} (h:LA PtR w S (.slice A n cap) L) {i:Nat} {g:Pt} (hi:L[i]?=some g):∃b o,A=some ⟨b,o,none⟩∧b<w.heap.size∧
  w.cell? ⟨b,o+i*5,none⟩=some (.int .i64 g.proc)∧w.cell? ⟨b,o+i*5+1,none⟩=some (.int .i64 g.page)∧w.cell? ⟨b,o+i*5+2,none⟩=some (.int .i64 g.frame)∧w.cell? ⟨b,o+i*5+3,none⟩=some (.bool g.wr)∧w.cell? ⟨b,o+i*5+4,none⟩=some (.bool g.acc):=by
 obtain ⟨b,o,cap',r,hv,c1,c2,hb,hS,hp,hc⟩:=h.at_ hi
 injection hv with e1 _ _
 have hp:r=g.row:=hp
 subst hp
 exact ⟨b,o,e1,hb,hc 0 _ rfl,hc 1 _ rfl,hc 2 _ rfl,hc 3 _ rfl,hc 4 _ rfl⟩
theorem pright_w (a b c:Int) (d e:Bool) (w:World) (h:rightP ⟨a,b,c,d,e⟩):Calls Tryz.prog 138 #[ptV a b c d e] w (RetB true w):=by
 obtain ⟨h1,h2,h3,h4,h5,h6⟩:=h
 dsimp only at h1 h2 h3 h4 h5 h6
 go_enter Tryz.func138,Tryz.ntmps138
 go_wp2
 go_ret
 exact ⟨rfl,bl_alloc B_ _⟩
theorem pless_w (a b c:Int) (d e:Bool) (a' b' c':Int) (d' e':Bool) (w:World):Calls Tryz.prog 139 #[ptV a b c d e,ptV a' b' c' d' e'] w (RetB (lessP ⟨a,b,c,d,e⟩ ⟨a',b',c',d',e'⟩) w):=by
 by_cases q1:a<a'
 ·have HQ:=H_ (show lessP ⟨a,b,c,d,e⟩ ⟨a',b',c',d',e'⟩=true by unfold lessP;exact decide_eq_true (.inl q1))
  have d1:decide (a<a')=true:=decide_eq_true q1
  go_enter Tryz.func139,Tryz.ntmps139
  go_wp2
  go_ret
  exact ⟨by rw [HQ.out];rfl,bl_alloc (bl_alloc B_ _) _⟩
 ·have d1:decide (a<a')=false:=decide_eq_false q1
  by_cases q2:a=a'
  ·subst q2
   have HQ:=H_ (show lessP ⟨a,b,c,d,e⟩ ⟨a,b',c',d',e'⟩=decide (b<b') by unfold lessP;simp)
   clear q1 d1
   go_enter Tryz.func139,Tryz.ntmps139
   go_wp2
   go_ret
   exact ⟨by rw [HQ.out];rfl,bl_alloc (bl_alloc B_ _) _⟩
  ·have HQ:=H_ (show lessP ⟨a,b,c,d,e⟩ ⟨a',b',c',d',e'⟩=false by unfold lessP;exact decide_eq_false (fun h=>h.elim q1 (fun h=>q2 h.1)))
   have d2:(a == a')=false:=by simp [q2]
   have d3:decide (a=a')=false:=decide_eq_false q2
   go_enter Tryz.func139,Tryz.ntmps139
   go_wp2
   go_ret
   exact ⟨by rw [HQ.out];rfl,bl_alloc (bl_alloc B_ _) _⟩
theorem ptsCheck_w (L:List Pt) (v:Value) (S:Nat→Prop) (w:World) (h:LA PtR w S v L) (ok:PtsOk L):Calls Tryz.prog 132 #[v] w (RetB true w):=by
 obtain ⟨A,cap,rfl,hc1,hc2⟩:=h.form
 have H:=H_ h
 have OK:=H_ ok.each
 have ASC:=H_ ok.asc
 have hlen:=ok.len
 unfold maxLen at hc2
 clear h ok
 go_enter Tryz.func132,Tryz.ntmps132
 go_wp2
 go_loopw [3] (fun i wx=>∃k:Nat,i = .int .i64 k∧k≤L.length∧Below w.heap.size w wx) (fun i _=>L.length - (intOf i).toNat)
 case atStart=>exact ⟨0,rfl,by omega,Below.refl _ _⟩
 case round=>
  obtain ⟨k,rfl,hk,hb⟩:=hrel
  have HB:=H_ hb
  clear hb
  by_cases hlt:k<L.length
  ·obtain ⟨x,hx⟩:∃x,L[k]?=some x:=⟨_,List.getElem?_eq_getElem hlt⟩
   obtain ⟨b,o,rfl,hbl,c0,c1,c2,c3,c4⟩:=PtA.cells (H.out.step HB.out) hx
   have hr:=fun w'=>pright_w x.proc x.page x.frame x.wr x.acc w' (OK.out x (List.mem_of_getElem? hx))
   cases k with
   | zero=>
    rw [Nat.zero_mul,Nat.add_zero] at c0 c1 c2 c3 c4
    obtain ⟨pr,pa,fr,wrr,ac⟩:=x
    dsimp only at c0 c1 c2 c3 c4 hr
    have xe:=ext_cell wr
    clear hx
    go_upto_region 4 with fail
    refine wp_region_ext (by kernel_rfl) (by kernel_rfl) ?_
    repeat (go_big_quiet_step ((with_reducible exact ext_call (hr _))))
    refine wpQuiet_nil ?_
    rintro w' ⟨z,rfl⟩
    go_wp2
    go_roundw
    case rel=>exact ⟨1,rfl,by omega,bl_step HB.out (below_ext _ _)⟩
    case measure=>simp [intOf];omega
   | succ m=>
    obtain ⟨y,hy⟩:∃y,L[m]?=some y:=⟨_,List.getElem?_eq_getElem (by omega)⟩
    obtain ⟨b',o',e1,_,k0,k1,k2,k3,k4⟩:=PtA.cells (H.out.step HB.out) hy
    injection e1 with e1
    injection e1 with e4 e5
    subst e4 e5
    have hls:=fun w'=>pless_w y.proc y.page y.frame y.wr y.acc x.proc x.page x.frame x.wr x.acc w'
    have hyx:lessP y x=true:=by
     have:=List.pairwise_iff_getElem.1 ASC.out m (m+1) (by omega) hlt (by omega)
     rw [←(List.getElem?_eq_some_iff.1 hy).2,←(List.getElem?_eq_some_iff.1 hx).2]
     exact this
    have hls:∀w',Calls Tryz.prog 139 #[ptV y.proc y.page y.frame y.wr y.acc,ptV x.proc x.page x.frame x.wr x.acc] w' (RetB true w'):=fun w'=>by
     have:=hls w'
     rw [show lessP ⟨y.proc,y.page,y.frame,y.wr,y.acc⟩ ⟨x.proc,x.page,x.frame,x.wr,x.acc⟩=true from hyx] at this
     exact this
    obtain ⟨pr,pa,fr,wrr,ac⟩:=x
    obtain ⟨pr2,pa2,fr2,wr2,ac2⟩:=y
    dsimp only at c0 c1 c2 c3 c4 k0 k1 k2 k3 k4 hr hls
    have xe:=ext_cell wr
    have w1:IntKind.i64.wrap (m:Int)=(m:Int):=w64 (by omega)
    have g0:(0:Int)<(m:Int)+1:=by omega
    have b0:(0:Int)≤(m:Int)+1:=by omega
    have b1:(m:Int)+1<(L.length:Int):=by omega
    have b2:((m:Int)+1).toNat=m+1:=by omega
    have b3:m<L.length:=by omega
    clear hx hy hyx
    go_upto_region 4 with fail
    refine wp_region_ext (by kernel_rfl) (by kernel_rfl) ?_
    repeat (first | (refine wpQuiet_step (fun K hK=>?_);go_simp;(with_reducible refine hK _ ?_);clear hK K) | (refine wpQuiet_step (fun K hK=>?_);go_simp;apply Exists.intro;refine ⟨fun _=>?_,hK _ ?_⟩;(first | (with_reducible exact ext_call (hr _)) | (with_reducible exact ext_call (hls _)));clear hK K))
    refine wpQuiet_nil ?_
    rintro w' ⟨z,rfl⟩
    go_wp2
    go_roundw
    case rel=>exact ⟨m+2,by go_num,by omega,bl_step HB.out (below_ext _ _)⟩
    case measure=>simp [intOf];omega
  ·obtain rfl:k=L.length:=by omega
   go_wp2
   go_ret
   exact ⟨rfl,HB.out⟩
end
end Go.Proofs.YthhekebemmckcaaGreatDoor
