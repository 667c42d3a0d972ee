/-
  Lemmas and contracts for the laws of synchronisations (layer 43), part 24; several texts joined by a program.
-/
import Derived.Test.YthhekebemmckcaaGreatDoorJ01
import Derived.Test.YthhekebemmckcaaGreatDoorJ16
import Derived.Test.YthhekebemmckcaaGreatDoorJ23
namespace Go.Proofs.YthhekebemmckcaaGreatDoor
set_option linter.unusedVariables false
set_option linter.unusedSimpArgs false
set_option maxRecDepth 100000
set_option maxHeartbeats 16000000
open Go.RowKit
section
def SK.int {S:Nat→Prop}:SK S:=⟨fun v _=>∃z:Int,v = .int .i64 z,fun _ _ _ _ h=>h⟩
theorem shA_le (c:Int):shA c≤0:=by unfold shA;split <;> omega
def EvP (C:Ck) (i j t k:Nat) (x:Fr) (y:Fl) (l:Lr) (gp:Gr) (zn:Zn) (C':Ck):Prop:=C'=C∨∃v z,v≤0∧C'={goneC C i j t k x y l gp zn v with clocks:=C.clocks.set t z}
theorem LW.clk {w:World} {S:Nat→Prop} {g:Nat} {L:List Int} (h:LW IntR w S g L) {i:Nat} (hi:i<L.length) (z:Int):LW IntR (w.setCell ⟨g,i,none⟩ (.int .i64 z)) S g (L.set i z):=by
 have:=h.setOne (i:=i) (p:=0) (a:=L[i]) (a':=z) (v:= .int .i64 z) (List.getElem?_eq_getElem hi) (by omega) rfl (fun r hr=>by
  have hr:r=[.int .i64 _]:=hr;subst hr
  rfl)
 rw [Nat.mul_one,Nat.add_zero] at this;exact this
theorem evict_w (C:Ck) (i j t k:Nat) (x:Fr) (y:Fl) (l:Lr) (gp:Gr) (zn:Zn) (clk:Int) (a b c d e f g:Value) (S:Nat→Prop) (w:World) (h:CkAt w S a b c d e f g C) (hl:CkOk C) (hu:FrU C i x j y) (hg:GoneH C i t k x l gp zn) (hck:C.clocks[t]?=some clk) (hS:∀z,w.heap.size≤z→S z) :
  Calls Tryz.prog 53 #[ckV a b c d e f g,.int .i64 ((i:Int)+1)] w (RetCkE (EvP C i j t k x y l gp zn) S w):=by
 obtain ⟨S1,s1,s2,s3⟩:=s1set hS;replace h:=h.weak s3;clear s3;have hus:=fun w' (hb:Below w.heap.size w w')=>used_w C i x a b c d e f g S1 w' (h.step hb) hu.fr hl.frames.2;rw [hu.used] at hus;obtain ⟨A1,cf0,rfl,q1,q2⟩:=h.files.form;obtain ⟨A2,cr0,rfl,q3,q4⟩:=h.frames.form;obtain ⟨A3,m3,c3,A4,m4,c4,A5,m5,c5,A6,m6,c6,A7,m7,c7,rfl,rfl,rfl,rfl,rfl⟩:=CkAt.caps5 h;obtain ⟨bb,o,rfl,hbl,y0,y1,y2,y3,y4,y5,y6,y7,y8⟩:=FrA.cells h.frames hu.fr;obtain ⟨bf,of,kt,KB,kc,rfl,hbf,k1,k2,k3,k4,hcf⟩:=FlA.cells h.files hu.fl;have hil:=(g_l hu.fr);have hjl:=(g_l hu.fl);have i2:(i:Int)<(C.frames.length:Int):=by omega
 have hl2:C.frames.length≤100:=hl.frames.2;have hl1:C.files.length≤100:=hl.files.2;have j2:(j:Int)<(C.files.length:Int):=by omega
 have H:=H_ h;have HL:=H_ hl;have HU:=H_ hu;clear h hl hu k1 k2 k3 k4;have GH:=H_ hg;have HCK:=H_ hck;clear hg hck;go_enter Tryz.func53,Tryz.ntmps53
 go_upto_region 1 with fail
 generalize hW9:(w.alloc _).alloc _=W;obtain ⟨HX,HR,HW,HZ⟩:=two_box hW9;clear hW9;have HW0:=HW.out;obtain ⟨x0,x1,x2,x3,x4,x5,x6⟩:=cs7 HX.out
 go_upto_region 3 with (go_at_call 86;(with_reducible refine CM (hus _ (by assumption)) ?_);rintro e w1 ⟨rfl,hb1⟩;have HX1:=bkh HX hb1;have HR1:=bkh HR hb1;have HW1:=blh HW hb1;have HZ1:=hb1.size;clear hb1)
 clear x0 x1 x2 x3 x4 x5 x6 HW0;obtain ⟨x0,x1,x2,x3,x4,x5,x6⟩:=cs7 HX1.out;replace y0:=(cell_kept (HW1.out.block _ hbl)).trans y0;replace y1:=(cell_kept (HW1.out.block _ hbl)).trans y1;replace y2:=(cell_kept (HW1.out.block _ hbl)).trans y2;replace y3:=(cell_kept (HW1.out.block _ hbl)).trans y3;replace y4:=(cell_kept (HW1.out.block _ hbl)).trans y4;replace y5:=(cell_kept (HW1.out.block _ hbl)).trans y5;replace y6:=(cell_kept (HW1.out.block _ hbl)).trans y6;replace y7:=(cell_kept (HW1.out.block _ hbl)).trans y7;replace y8:=(cell_kept (HW1.out.block _ hbl)).trans y8
 go_upto_region 4 with fail
 generalize hW9:w1.alloc _=W2;have HF:=nah hW9;have HX2:=bah hW9 HX1;have HR2:=bah hW9 HR1;have HW2:=lah hW9 HW1;clear hW9;clear x0 x1 x2 x3 x4 x5 x6 y0 y1 y2 y3 y4 y5 y6 y7 y8;obtain ⟨x0,x1,x2,x3,x4,x5,x6⟩:=cs7 HX2.out;obtain ⟨f0,f1,f2,f3,f4,f5,f6,f7,f8⟩:=cs9 HF.out;have HFZ:w.heap.size≤w1.heap.size∧w.heap.size+1<w1.heap.size:=⟨by omega,by omega⟩;have hidw:=fun w'=>idle_w x w'
 cases hid:idleB x with
 | false=>
  rw [hid] at hidw;clear hid
  go_wp2_with (first | (go_at_call 95;go_loud (refine CM (hidw _) ?_);rintro e w3 ⟨rfl,hb3⟩;have HX3:=bkh HX2 hb3;have HF3:=bkh HF hb3;have HR3:=bkh HR2 hb3;have HW3:=blh HW2 hb3;clear hb3 x0 x1 x2 x3 x4 x5 x6 f0 f1 f2 f3 f4 f5 f6 f7 f8;obtain ⟨x0,x1,x2,x3,x4,x5,x6⟩:=cs7 HX3.out;obtain ⟨f0,f1,f2,f3,f4,f5,f6,f7,f8⟩:=cs9 HF3.out) | (refine st_ck rfl (.tmp 4) (.tmp 30) rfl rfl (w.heap.size+1) rfl rfl HR3.out rfl ?_))
  show bodyPost Tryz.prog Tryz.f53 _ _ _ _
  refine bodyPost_ret (ck2_res rfl _ _ (w.heap.size+1) _ _ _ _ _ _ _ _ _ _ rfl rfl (setRow_heap _ _ _ _ _ _ HR3.out)) rfl ?_;exact ⟨C,_,_,_,_,_,_,_,_,.inl rfl,rfl,(H.out.step (bl_setRow HW3.out (by omega) _)).weak (fun z _ hz=>(s1 z hz).1),bl_setRow HW3.out (by omega) _⟩
 | true=>
  rw [hid] at hidw;clear hid
  by_cases hd0:x.pg.dirty=0
  ·have d4:(x.pg.dirty != 0)=false:=by rw [hd0];rfl
   clear hd0
   go_upto_region 6 with (first | (go_at_call 95;go_loud (refine CM (hidw _) ?_);rintro e w3 ⟨rfl,hb3⟩;have HX3:=bkh HX2 hb3;have HF3:=bkh HF hb3;have HR3:=bkh HR2 hb3;have HW3:=blh HW2 hb3;clear hb3 x0 x1 x2 x3 x4 x5 x6 f0 f1 f2 f3 f4 f5 f6 f7 f8;obtain ⟨x0,x1,x2,x3,x4,x5,x6⟩:=cs7 HX3.out;obtain ⟨f0,f1,f2,f3,f4,f5,f6,f7,f8⟩:=cs9 HF3.out) | fail)
   rw [GH.out.ten] at f5;obtain ⟨bk',ok',capk,ek,_,_,hbk,_,kc0⟩:=IL.cell H.out.clocks HCK.out;replace kc0:=(cell_kept (HW3.out.block _ hbk)).trans kc0;injection ek with eA6 em6 ec6
   rw [eA6,em6] at x5;have htk:=(g_l HCK.out);have hlk:C.clocks.length≤100:=HL.out.clocks.2;clear eA6 em6 ec6
   go_upto_region 7 with (go_at_call 96;refine (rshadow_w clk _).mono ?_;rintro e w9 ⟨rfl,rfl⟩)
   have hz4:w.heap.size+1<w3.heap.size:=bk_lt HR3.out;clear x0 x1 x2 x3 x4 x5 x6 kc0;obtain ⟨x0,x1,x2,x3,x4,x5,x6⟩:=cs7 HX3.out
   go_upto_region 8 with (go_at_call 97;go_loud (with_reducible refine CM (gone_w C i j t k x y l gp zn (shA clk) _ _ _ _ _ _ _ S1 _ (H.out.step HW3.out) HL.out HU.out GH.out (fun z hz=>s2 z (by omega))) ?_);rintro e w4 ⟨gf,nf,cf,gr,nr,cr,c',d',gl,nl,cl,gk,nk,ck,g',rfl,hc4,hb4⟩;obtain ⟨P3,n3,r3,rfl⟩:=hc4.zones.cap;obtain ⟨P4,n4,r4,rfl⟩:=hc4.groups.cap;obtain ⟨P7,n7,r7,rfl⟩:=hc4.ptes.cap)
   have HO5:=H_ (heap_at_new w4 (.cells ((R7_ gf nf cf gr nr cr (.slice P3 n3 r3) (.slice P4 n4 r4) gl nl cl gk nk ck (.slice P7 n7 r7))) 30) w4.heap.size rfl);have HX5:=H_ (bk_alloc (bk_step HX3.out hb4) (.cells ((R7_ gf nf cf gr nr cr (.slice P3 n3 r3) (.slice P4 n4 r4) gl nl cl gk nk ck (.slice P7 n7 r7))) 30));have HR5:=H_ (bk_alloc (bk_step HR3.out hb4) (.cells ((R7_ gf nf cf gr nr cr (.slice P3 n3 r3) (.slice P4 n4 r4) gl nl cl gk nk ck (.slice P7 n7 r7))) 30));have HF5:=H_ (bk_alloc (bk_step HF3.out hb4) (.cells ((R7_ gf nf cf gr nr cr (.slice P3 n3 r3) (.slice P4 n4 r4) gl nl cl gk nk ck (.slice P7 n7 r7))) 30));have HW5:=H_ (bl_alloc (bl_step HW3.out hb4) (.cells ((R7_ gf nf cf gr nr cr (.slice P3 n3 r3) (.slice P4 n4 r4) gl nl cl gk nk ck (.slice P7 n7 r7))) 30));have HC5:=H_ (hc4.step (bl_alloc (Below.refl w4.heap.size w4) (.cells ((R7_ gf nf cf gr nr cr (.slice P3 n3 r3) (.slice P4 n4 r4) gl nl cl gk nk ck (.slice P7 n7 r7))) 30)));have hz5:w.heap.size+1<w4.heap.size∧w1.heap.size<w4.heap.size∧gk<w4.heap.size∧w.heap.size<w4.heap.size:=⟨bk_lt (bk_step HR3.out hb4),bk_lt (bk_step HF3.out hb4),hc4.lt,bk_lt (bk_step HX3.out hb4)⟩;have hord:w3.heap.size≤gf∧gf<gr∧gr<gl∧gl<gk:=⟨hc4.o1,hc4.o2,hc4.o3,hc4.o4⟩;have hz6:=hb4.size;generalize w4.alloc (.cells ((R7_ gf nf cf gr nr cr (.slice P3 n3 r3) (.slice P4 n4 r4) gl nl cl gk nk ck (.slice P7 n7 r7))) 30)=W5 at HO5 HX5 HR5 HF5 HW5 HC5;clear hc4 hb4 x0 x1 x2 x3 x4 x5 x6 f0 f1 f2 f3 f4 f5 f6 f7 f8;obtain ⟨x0,x1,x2,x3,x4,x5,x6⟩:=cs7 HX5.out;obtain ⟨f0,f1,f2,f3,f4,f5,f6,f7,f8⟩:=cs9 HF5.out;rw [GH.out.ten] at f5;have o5:=cells_at HO5.out 5;simp only [List.getElem?_toArray,List.getElem?_cons_zero,List.getElem?_cons_succ] at o5;obtain ⟨bk',ok',capk,ek,_,_,hbk,_,kc0⟩:=IL.cell H.out.clocks HCK.out;replace kc0:=(cell_kept (HW5.out.block _ hbk)).trans kc0;injection ek with eA6 em6 ec6
   rw [eA6,em6] at x5;clear eA6 em6 ec6;have hlx:=bk_lt HX5.out;have hlf:=bk_lt HF5.out;have hlo:=bk_lt HO5.out;have hlb:bk'<W5.heap.size:=Nat.lt_of_lt_of_le hbk HW5.out.size;have hnk:t<nk∧nk≤1000:=⟨by rw [←HC5.out.ek];exact htk,by rw [←HC5.out.ek];show C.clocks.length≤1000;omega⟩
   go_cut [] (fun wx=>∃z:Int,CpL wx S1 w3.heap.size gf nf cf gr nr cr (.slice P3 n3 r3) (.slice P4 n4 r4) gl nl cl gk nk ck (.slice P7 n7 r7) (⟨(goneC C i j t k x y l gp zn (shA clk)).files,(goneC C i j t k x y l gp zn (shA clk)).frames,(goneC C i j t k x y l gp zn (shA clk)).zones,(goneC C i j t k x y l gp zn (shA clk)).groups,(goneC C i j t k x y l gp zn (shA clk)).lists,C.clocks.set t z,(goneC C i j t k x y l gp zn (shA clk)).ptes⟩:Ck)∧wx.heap[w4.heap.size]?=some (.cells ((R7_ gf nf cf gr nr cr (.slice P3 n3 r3) (.slice P4 n4 r4) gl nl cl gk nk ck (.slice P7 n7 r7))) 30 (0,0))∧wx.heap[w.heap.size+1]?=some (oCZ)∧Below w.heap.size w wx)
   case first=>
    refine wp_region_sk (S:=TS S1 gf gr gl gk) 59 13 (fun i=>decide (i≤12)) (fun wx=>∃z:Int,CpL wx S1 w3.heap.size gf nf cf gr nr cr (.slice P3 n3 r3) (.slice P4 n4 r4) gl nl cl gk nk ck (.slice P7 n7 r7) (⟨(goneC C i j t k x y l gp zn (shA clk)).files,(goneC C i j t k x y l gp zn (shA clk)).frames,(goneC C i j t k x y l gp zn (shA clk)).zones,(goneC C i j t k x y l gp zn (shA clk)).groups,(goneC C i j t k x y l gp zn (shA clk)).lists,C.clocks.set t z,(goneC C i j t k x y l gp zn (shA clk)).ptes⟩:Ck)∧wx.heap[w4.heap.size]?=some (.cells ((R7_ gf nf cf gr nr cr (.slice P3 n3 r3) (.slice P4 n4 r4) gl nl cl gk nk ck (.slice P7 n7 r7))) 30 (0,0))∧wx.heap[w.heap.size+1]?=some (oCZ)∧Below w.heap.size w wx) [SK.eq (.pointer (some ⟨w4.heap.size,5,none⟩)),SK.eq (.slice (some ⟨gk,0,none⟩) nk ck),SK.eq (.pointer (some ⟨w1.heap.size,5,none⟩)),SK.eq (.int .i64 (t:Int)),SK.eq (.pointer (some ⟨w.heap.size,5,none⟩)),SK.eq (.slice (some ⟨bk',ok',none⟩) C.clocks.length c6),SK.eq (.pointer (some ⟨w1.heap.size,5,none⟩)),SK.eq (.int .i64 (t:Int)),SK.eq (.pointer (some ⟨bk',ok'+t,none⟩)),SK.eq (.int .i64 clk),SK.int,SK.int,SK.eq (.pointer (some ⟨gk,t,none⟩)),SK.any] (by kernel_rfl) (by kernel_rfl) rfl (fun _=>trivial) ?_;refine rP rfl rfl (fun xw hC hd K hK=>?_) (fun v0=>?_)
    ·go_simp;exact hK _ _ hC K_ rfl
    simp only [ly];refine rP rfl rfl (fun xw hC hd K hK=>?_) (fun v1=>?_)
    ·obtain rfl:v0=_:=hd 0 (by kernel_rfl);have hC':Below W5.heap.size W5 xw:=hC;have u0:=(hC'.cell (p:=⟨w4.heap.size,_,none⟩) hlo).trans o5;go_simp;exact hK _ _ hC K_ rfl
    simp only [ly];refine rP rfl rfl (fun xw hC hd K hK=>?_) (fun v2=>?_)
    ·go_simp;exact hK _ _ hC K_ rfl
    simp only [ly];refine rP rfl rfl (fun xw hC hd K hK=>?_) (fun v3=>?_)
    ·obtain rfl:v2=_:=hd 2 (by kernel_rfl);have hC':Below W5.heap.size W5 xw:=hC;have u0:=(hC'.cell (p:=⟨w1.heap.size,_,none⟩) hlf).trans f5;go_simp;exact hK _ _ hC K_ rfl
    simp only [ly];refine rP rfl rfl (fun xw hC hd K hK=>?_) (fun v4=>?_)
    ·go_simp;exact hK _ _ hC K_ rfl
    simp only [ly];refine rP rfl rfl (fun xw hC hd K hK=>?_) (fun v5=>?_)
    ·obtain rfl:v4=_:=hd 4 (by kernel_rfl);have hC':Below W5.heap.size W5 xw:=hC;have u0:=(hC'.cell (p:=⟨w.heap.size,_,none⟩) hlx).trans x5;go_simp;exact hK _ _ hC K_ rfl
    simp only [ly];refine rP rfl rfl (fun xw hC hd K hK=>?_) (fun v6=>?_)
    ·go_simp;exact hK _ _ hC K_ rfl
    simp only [ly];refine rP rfl rfl (fun xw hC hd K hK=>?_) (fun v7=>?_)
    ·obtain rfl:v6=_:=hd 6 (by kernel_rfl);have hC':Below W5.heap.size W5 xw:=hC;have u0:=(hC'.cell (p:=⟨w1.heap.size,_,none⟩) hlf).trans f5;go_simp;exact hK _ _ hC K_ rfl
    simp only [ly];refine rP rfl rfl (fun xw hC hd K hK=>?_) (fun v8=>?_)
    ·obtain rfl:v5=_:=hd 5 (by kernel_rfl);obtain rfl:v7=_:=hd 7 (by kernel_rfl);go_simp;exact hK _ _ hC K_ rfl
    simp only [ly];refine rP rfl rfl (fun xw hC hd K hK=>?_) (fun v9=>?_)
    ·obtain rfl:v8=_:=hd 8 (by kernel_rfl);have hC':Below W5.heap.size W5 xw:=hC;have u0:=(hC'.cell (p:=⟨bk',_,none⟩) hlb).trans kc0;go_simp;exact hK _ _ hC K_ rfl
    simp only [ly];refine rP rfl rfl (fun xw hC hd K hK=>?_) (fun v10=>?_)
    ·obtain rfl:v9=_:=hd 9 (by kernel_rfl);go_simp;exact hK _ _ hC K_ ⟨_,rfl⟩
    simp only [ly];refine rP rfl rfl (fun xw hC hd K hK=>?_) (fun v11=>?_)
    ·obtain ⟨z55,e55⟩:∃z,v10 = .int .i64 z:=hd 10 (by kernel_rfl);obtain rfl:v10=_:=e55;go_simp;exact hK _ _ hC K_ ⟨_,rfl⟩
    simp only [ly];refine rP rfl rfl (fun xw hC hd K hK=>?_) (fun v12=>?_)
    ·obtain rfl:v1=_:=hd 1 (by kernel_rfl);obtain rfl:v3=_:=hd 3 (by kernel_rfl);go_simp;exact hK _ _ hC K_ rfl
    simp only [ly];refine rS (fun xw hC hd K hK=>?_) (fun v13=>?_)
    ·obtain rfl:v12=_:=hd 12 (by kernel_rfl);obtain ⟨zv,ez⟩:∃z,v11 = .int .i64 z:=hd 11 (by kernel_rfl);obtain rfl:v11=_:=ez;have hC':Below W5.heap.size W5 xw:=hC;have HC6:=HC5.out.step hC';obtain ⟨⟨u,hu⟩,hfz⟩:=HC6.clocks.slot (i:=t) htk (p:=0) (by omega);rw [Nat.mul_one,Nat.add_zero] at hu hfz;go_simp;refine hK undef _ ⟨zv,HC6.putClocks (gb_setCells xw gk t [.int .i64 zv]) (HC6.clocks.clk htk zv) (by rw [List.length_set];rfl),?_,?_,?_⟩ (KeepS.of_setCell _ _ _ (fun h=>h.2.2.2.2 rfl)) trivial
     ·exact (Below.heap_setCell xw ⟨gk,t,none⟩ _ w4.heap.size (by show w4.heap.size≠gk;omega)).trans (bk_step HO5.out hC')
     ·exact (Below.heap_setCell xw ⟨gk,t,none⟩ _ (w.heap.size+1) (by show w.heap.size+1≠gk;omega)).trans (bk_step HR5.out hC')
     ·exact bl_set (bl_step HW5.out hC') ⟨gk,t,none⟩ _ (by show w.heap.size≤gk;omega)
    simp only [ly];refine relWalkA_nil ?_;intro wz hD hG;clear hG;go_wp2;go_meet
    case rel=>exact hD
   case rest=>
    clear x0 x1 x2 x3 x4 x5 x6 f0 f1 f2 f3 f4 f5 f6 f7 f8 o5 kc0 hlx hlf hlo hlb HC5 HO5 HR5 HX5 HF5 HW5 HR3 HX3 HF3 HW3;obtain ⟨z,hC6,hO6,hR6,hW6⟩:=hcut;have HC6:=H_ hC6;have HR6:=H_ hR6;have HW6:=H_ hW6;clear hC6 hR6 hW6;obtain ⟨x0,x1,x2,x3,x4,x5,x6⟩:=cs7 hO6
    go_wp2_with (refine st_ck rfl (.tmp 4) (.tmp 58) rfl rfl (w.heap.size+1) rfl rfl HR6.out rfl ?_)
    show bodyPost Tryz.prog Tryz.f53 _ _ _ _
    refine bodyPost_ret (ck2_res rfl _ _ (w.heap.size+1) _ _ _ _ _ _ _ _ _ _ rfl rfl (setRow_heap _ _ _ _ _ _ HR6.out)) rfl ?_;refine ⟨_,_,_,_,_,_,_,_,_,.inr ⟨shA clk,z,shA_le _,rfl⟩,rfl,((HC6.out.setRow (w.heap.size+1) (R7_ gf nf cf gr nr cr (.slice P3 n3 r3) (.slice P4 n4 r4) gl nl cl gk nk ck (.slice P7 n7 r7)) (fun hz=>(s1 _ hz).2.2 rfl) (by omega)).weak (by omega) (fun z hz=>(s1 z hz).1) hS).at_,bl_setRow HW6.out (by omega) _⟩
  ·have d4:(x.pg.dirty != 0)=true:=bne_iff_ne.2 hd0;clear hd0
   go_wp2_with (first | (go_at_call 95;go_loud (refine CM (hidw _) ?_);rintro e w3 ⟨rfl,hb3⟩;have HX3:=bkh HX2 hb3;have HF3:=bkh HF hb3;have HR3:=bkh HR2 hb3;have HW3:=blh HW2 hb3;clear hb3 x0 x1 x2 x3 x4 x5 x6 f0 f1 f2 f3 f4 f5 f6 f7 f8;obtain ⟨x0,x1,x2,x3,x4,x5,x6⟩:=cs7 HX3.out;obtain ⟨f0,f1,f2,f3,f4,f5,f6,f7,f8⟩:=cs9 HF3.out) | (refine st_ck rfl (.tmp 4) (.tmp 30) rfl rfl (w.heap.size+1) rfl rfl HR3.out rfl ?_))
   show bodyPost Tryz.prog Tryz.f53 _ _ _ _
   refine bodyPost_ret (ck2_res rfl _ _ (w.heap.size+1) _ _ _ _ _ _ _ _ _ _ rfl rfl (setRow_heap _ _ _ _ _ _ HR3.out)) rfl ?_;exact ⟨C,_,_,_,_,_,_,_,_,.inl rfl,rfl,(H.out.step (bl_setRow HW3.out (by omega) _)).weak (fun z _ hz=>(s1 z hz).1),bl_setRow HW3.out (by omega) _⟩
end
section
def RetTl (sz:Nat) (w:World) (en:Ending) (w':World):Prop:=∃p s:Int,en = .returned (.tuple #[.int .i64 p,.int .i64 s])∧(p=-1∨∃q:Nat,p=q∧q<8)∧0≤s∧s≤3∧(sz % 16=0→p=-1)∧Below w.heap.size w w'
theorem tail_w (C:Ck) (j sz:Nat) (y:Fl) (en:Int) (a b c d e f g:Value) (S:Nat→Prop) (w:World) (h:CkAt w S a b c d e f g C) (hl:CkOk C) (hj:C.files[j]?=some y) (hsz:y.size=sz) (hs8:sz≤128) :
  Calls Tryz.prog 85 #[ckV a b c d e f g,.int .i64 j,.int .i64 en] w (RetTl sz w):=by
 have hjl':=(g_l hj);have hhf0:=fun w' (hb:Below w.heap.size w w')=>hasFile_w C j a b c d e f g S w' (h.step hb) hjl';obtain ⟨A1,cf0,rfl,q1,q2⟩:=h.files.form;obtain ⟨A2,m2,c2,rfl⟩:=h.frames.cap;obtain ⟨A3,m3,c3,A4,m4,c4,A5,m5,c5,A6,m6,c6,A7,m7,c7,rfl,rfl,rfl,rfl,rfl⟩:=CkAt.caps5 h;obtain ⟨bf,of,kt,KB,kc,rfl,hbf,k1,k2,k3,k4,hcf⟩:=FlA.cells h.files hj;have hjl:=(g_l hj);have hl1:C.files.length≤100:=hl.files.2;have j2:(j:Int)<(C.files.length:Int):=by omega
 have j0:(0:Int)≤(j:Int):=by omega
 have H:=H_ h;have HL:=H_ hl;have HJ:=H_ hj;clear h hl hj k1 k2 k3 k4;have HS:=H_ hsz;obtain ⟨q,r,hqr,hr⟩:∃q r:Nat,sz=q*16+r∧r<16:=⟨sz / 16,sz % 16,by omega,by omega⟩;have e1:(sz:Int).tmod 16=(r:Int):=by rw [Int.tmod_eq_emod_of_nonneg (by omega)];omega
 have e2:(sz:Int).tdiv 16=(q:Int):=by rw [Int.tdiv_eq_ediv_of_nonneg (by omega)];omega
 have e3:(sz:Int) / 16=(q:Int):=by omega
 have e4:(sz:Int) % 16=(r:Int):=by omega
 have HQR:=H_ hqr;have hq9:q≤8:=by omega
 clear hqr hsz;have HX:=H_ (heap_alloc_at w (.cells #[.slice (some ⟨bf,of,none⟩) C.files.length cf0,.slice A2 m2 c2,.slice A3 m3 c3,.slice A4 m4 c4,.slice A5 m5 c5,.slice A6 m6 c6,.slice A7 m7 c7] 30));have HW:=H_ (bl_alloc (Below.refl w.heap.size w) (.cells #[.slice (some ⟨bf,of,none⟩) C.files.length cf0,.slice A2 m2 c2,.slice A3 m3 c3,.slice A4 m4 c4,.slice A5 m5 c5,.slice A6 m6 c6,.slice A7 m7 c7] 30));go_enter Tryz.func85,Tryz.ntmps85
 go_upto_region 1 with fail
 generalize w.alloc (.cells #[.slice (some ⟨bf,of,none⟩) C.files.length cf0,.slice A2 m2 c2,.slice A3 m3 c3,.slice A4 m4 c4,.slice A5 m5 c5,.slice A6 m6 c6,.slice A7 m7 c7] 30)=W at HX HW;obtain ⟨x0,x1,x2,x3,x4,x5,x6⟩:=cs7 HX.out;have z0:W.cell? ⟨bf,of+j*15,none⟩=some (.int .i64 y.dev):=(cell_kept (HW.out.block _ hbf)).trans (hcf 0 _ rfl);have z1:W.cell? ⟨bf,of+j*15+1,none⟩=some (.int .i64 y.slot):=(cell_kept (HW.out.block _ hbf)).trans (hcf 1 _ rfl);have z2:W.cell? ⟨bf,of+j*15+2,none⟩=some (.int .i64 kt):=(cell_kept (HW.out.block _ hbf)).trans (hcf 2 _ rfl);have z3:W.cell? ⟨bf,of+j*15+3,none⟩=some (.slice KB (cano kt y.c).kids.length kc):=(cell_kept (HW.out.block _ hbf)).trans (hcf 3 _ rfl);have z4:W.cell? ⟨bf,of+j*15+4,none⟩=some (.int .i64 (cano kt y.c).val):=(cell_kept (HW.out.block _ hbf)).trans (hcf 4 _ rfl);have z5:W.cell? ⟨bf,of+j*15+5,none⟩=some (.int .i64 (cano kt y.c).marks):=(cell_kept (HW.out.block _ hbf)).trans (hcf 5 _ rfl);have z6:W.cell? ⟨bf,of+j*15+6,none⟩=some (.int .i64 y.size):=(cell_kept (HW.out.block _ hbf)).trans (hcf 6 _ rfl);have z7:W.cell? ⟨bf,of+j*15+7,none⟩=some (.int .i64 y.blocks):=(cell_kept (HW.out.block _ hbf)).trans (hcf 7 _ rfl);have z8:W.cell? ⟨bf,of+j*15+8,none⟩=some (.int .i64 y.ecnt):=(cell_kept (HW.out.block _ hbf)).trans (hcf 8 _ rfl);have z9:W.cell? ⟨bf,of+j*15+9,none⟩=some (.int .i64 y.eerr):=(cell_kept (HW.out.block _ hbf)).trans (hcf 9 _ rfl);have za:W.cell? ⟨bf,of+j*15+10,none⟩=some (.int .i64 y.sseq):=(cell_kept (HW.out.block _ hbf)).trans (hcf 10 _ rfl);have zb:W.cell? ⟨bf,of+j*15+11,none⟩=some (.int .i64 y.ssize):=(cell_kept (HW.out.block _ hbf)).trans (hcf 11 _ rfl);have zc:W.cell? ⟨bf,of+j*15+12,none⟩=some (.int .i64 y.sblocks):=(cell_kept (HW.out.block _ hbf)).trans (hcf 12 _ rfl);have zd:W.cell? ⟨bf,of+j*15+13,none⟩=some (.int .i64 y.which):=(cell_kept (HW.out.block _ hbf)).trans (hcf 13 _ rfl);have ze:W.cell? ⟨bf,of+j*15+14,none⟩=some (.int .i64 y.seq):=(cell_kept (HW.out.block _ hbf)).trans (hcf 14 _ rfl);rw [HS.out] at z6
 have hhf:=fun z=>hhf0 (ext W z) (bl_step HW.out (below_ext W z));have xe:=ext_cell W;have hbX:w.heap.size<W.heap.size:=bk_lt HX.out;have hbF:bf<W.heap.size:=Nat.lt_of_lt_of_le hbf HW.out.size;clear hcf hhf0
 by_cases h1:en≤(sz:Int)
 ·have d1:decide (en≤(sz:Int))=true:=decide_eq_true h1;have hho:True:=trivial;clear h1
  go_upto_region 1 with fail
  refine wp_region_ext (by kernel_rfl) (by kernel_rfl) ?_
  repeat (go_big_quiet_step ((first | (with_reducible exact ext_call (hhf _)) | (with_reducible exact ext_call (hho _)))))
  refine wpQuiet_nil ?_;rintro w' ⟨z,rfl⟩;go_wp2
  go_ret2
  exact ⟨-1,0,rfl,.inl rfl,by omega,by omega,fun _=>rfl,bl_step HW.out (below_ext _ _)⟩
 ·have d1:decide (en≤(sz:Int))=false:=decide_eq_false h1;clear h1
  by_cases h2:r=0
  ·subst h2;have hho:True:=trivial
   go_upto_region 1 with fail
   refine wp_region_ext (by kernel_rfl) (by kernel_rfl) ?_
   repeat (go_big_quiet_step ((first | (with_reducible exact ext_call (hhf _)) | (with_reducible exact ext_call (hho _)))))
   refine wpQuiet_nil ?_;rintro w' ⟨z,rfl⟩;go_wp2
   go_ret2
   exact ⟨-1,0,rfl,.inl rfl,by omega,by omega,fun _=>rfl,bl_step HW.out (below_ext _ _)⟩
  ·have d2:((r:Int) == 0)=false:=beq_eq_false_iff_ne.2 (by omega);have hq8:q<8:=by have:=HQR.out;omega
   have hho0:∀w',Calls Tryz.prog 74 #[.agg #[.int .i64 y.dev,.int .i64 y.slot,.int .i64 kt,.slice KB (cano kt y.c).kids.length kc,.int .i64 (cano kt y.c).val,.int .i64 (cano kt y.c).marks,.int .i64 (sz:Int),.int .i64 y.blocks,.int .i64 y.ecnt,.int .i64 y.eerr,.int .i64 y.sseq,.int .i64 y.ssize,.int .i64 y.sblocks,.int .i64 y.which,.int .i64 y.seq],.int .i64 (q:Int)] w' (RetB (holeB y q) w'):=fun w'=>by
    have:=holeq_w y kt KB kc q hq8 w';simp only [Fl.v,Fl.rowT,HS.out] at this;exact this
   cases h3:holeB y q with
   | true=>
    rw [h3] at hho0;have hho:=fun z=>hho0 (ext W z);clear hho0 h3
    go_upto_region 1 with fail
    refine wp_region_ext (by kernel_rfl) (by kernel_rfl) ?_
    repeat (go_big_quiet_step ((first | (with_reducible exact ext_call (hhf _)) | (with_reducible exact ext_call (hho _)))))
    refine wpQuiet_nil ?_;rintro w' ⟨z,rfl⟩;go_wp2
    go_ret2
    exact ⟨-1,0,rfl,.inl rfl,by omega,by omega,fun _=>rfl,bl_step HW.out (below_ext _ _)⟩
   | false=>
    rw [h3] at hho0;have hho:=fun z=>hho0 (ext W z);clear hho0 h3
    go_upto_region 1 with fail
    refine wp_region_ext (by kernel_rfl) (by kernel_rfl) ?_
    repeat (go_big_quiet_step ((first | (with_reducible exact ext_call (hhf _)) | (with_reducible exact ext_call (hho _)))))
    refine wpQuiet_nil ?_;rintro w' ⟨z,rfl⟩;obtain ⟨k0,hk0,hk1⟩:∃k0:Nat,r / 8=k0∧k0≤1:=⟨r / 8,rfl,by omega⟩;have e5:(r:Int).tdiv 8=(k0:Int):=by rw [Int.tdiv_eq_ediv_of_nonneg (by omega)];omega
    have e6:(r:Int) / 8=(k0:Int):=by omega
    clear hk0 d1 d2
    go_upto_region 5 with fail
    go_loopw [8,9] (fun s8 s9 wx=>∃(sv:Int) (kn:Nat),s8 = .int .i64 sv∧s9 = .int .i64 kn∧kn≤2∧0≤sv∧sv≤3∧wx=ext W z) (fun _ s9 _=>2 - (intOf s9).toNat)
    case atStart=>exact ⟨0,k0,rfl,rfl,by omega,by omega,by omega,rfl⟩
    case round=>
     obtain ⟨sv,kn,rfl,rfl,hkn,hv0,hv3,rfl⟩:=hrel;obtain rfl | rfl | rfl:kn=0∨kn=1∨kn=2:=by omega
     ·have ho:=or3 (a:=sv) (b:=1) ⟨hv0,hv3⟩ ⟨by omega,by omega⟩;clear e1 e2 e3 e4 e5 e6;go_wp2;go_roundw
      case rel=>exact ⟨_,1,rfl,rfl,by omega,ho.1,ho.2,trivial⟩
      case measure=>simp [intOf]
     ·have ho:=or3 (a:=sv) (b:=2) ⟨hv0,hv3⟩ ⟨by omega,by omega⟩;clear e1 e2 e3 e4 e5 e6;go_wp2;go_roundw
      case rel=>exact ⟨_,2,rfl,rfl,by omega,ho.1,ho.2,trivial⟩
      case measure=>simp [intOf]
     ·go_wp2
      go_ret2
      exact ⟨q,sv,rfl,.inr ⟨q,rfl,hq8⟩,hv0,hv3,fun h=>by have:=HQR.out;omega,bl_step HW.out (below_ext _ _)⟩
end
section
def FindOk (C:Ck) (j:Nat) (y:Fl):Prop:=∀p:Int,0<getR y.c p→∃(i:Nat) (x:Fr),getR y.c p=(i:Int)+1∧FrU C i x j y∧x.page=p
def RetCkF (P:Ck→Int→Prop) (S:Nat→Prop) (w:World) (en:Ending) (w':World):Prop:=∃C' err a b c d e f g,P C' err∧en = .returned (.tuple #[ckV a b c d e f g,.int .i64 err])∧CkAt w' S a b c d e f g C'∧Below w.heap.size w w'
def SoP (C:Ck) (j:Nat) (y:Fl) (C':Ck):Prop:=C'=C∨∃i x s,FrU C i x j y∧0≤s∧s≤3∧C'=putC C i j y ⟨x.file,x.page,soilG x.pg s,x.tenant,x.holds,x.reading,x.writing⟩
theorem soiled_w (C:Ck) (j sz:Nat) (y:Fl) (en:Int) (a b c d e f g:Value) (S:Nat→Prop) (w:World) (h:CkAt w S a b c d e f g C) (hl:CkOk C) (hj:C.files[j]?=some y) (hsz:y.size=sz) (hs8:sz≤128) (hF:FindOk C j y) (hS:∀z,w.heap.size≤z→S z) :
  Calls Tryz.prog 78 #[ckV a b c d e f g,.int .i64 j,.int .i64 en] w (RetCkF (fun C' err=>SoP C j y C'∧(sz % 16=0→C'=C∧err=0)) S w):=by
 obtain ⟨S1,s1,s2,s3⟩:=s1set hS;replace h:=h.weak s3;clear s3;have htl:=fun w' (hb:Below w.heap.size w w')=>tail_w C j sz y en a b c d e f g S1 w' (h.step hb) hl hj hsz hs8;have hfd:=fun p w' (hb:Below w.heap.size w w')=>find_w40 C j y p a b c d e f g S1 w' (h.step hb) hj;obtain ⟨A1,cf0,rfl,q1,q2⟩:=h.files.form;obtain ⟨A2,m2,c2,rfl⟩:=h.frames.cap;obtain ⟨A3,m3,c3,A4,m4,c4,A5,m5,c5,A6,m6,c6,A7,m7,c7,rfl,rfl,rfl,rfl,rfl⟩:=CkAt.caps5 h;obtain ⟨bf,of,kt,KB,kc,rfl,hbf,k1,k2,k3,k4,hcf⟩:=FlA.cells h.files hj;have hjl:=(g_l hj);have hl1:C.files.length≤100:=hl.files.2;have j2:(j:Int)<(C.files.length:Int):=by omega
 have j0:(0:Int)≤(j:Int):=by omega
 have H:=H_ h;have HL:=H_ hl;have HJ:=H_ hj;clear h hl hj k1 k2 k3 k4;have HFO:=H_ hF;clear hF hsz hcf;go_enter Tryz.func78,Tryz.ntmps78
 go_upto_region 1 with fail
 generalize hW9:(w.alloc _).alloc _=W;obtain ⟨HX,HR,HW,HZ⟩:=two_box hW9;clear hW9 HZ;obtain ⟨x0,x1,x2,x3,x4,x5,x6⟩:=cs7 HX.out
 go_upto_region 2 with (go_at_call 85;go_loud (with_reducible refine CM (htl _ HW.out) ?_);rintro e w1 ⟨p,s,rfl,hp,hs0,hs3,hs16,hb1⟩;have HX1:=bkh HX hb1;have HR1:=bkh HR hb1;have HW1:=blh HW hb1;clear hb1)
 clear x0 x1 x2 x3 x4 x5 x6;obtain ⟨x0,x1,x2,x3,x4,x5,x6⟩:=cs7 HX1.out
 rcases hp with rfl | ⟨q,rfl,hq8⟩
 ·go_wp2_with (refine st_ck rfl (.tmp 6) (.tmp 22) rfl rfl (w.heap.size+1) rfl rfl HR1.out rfl ?_)
  show bodyPost Tryz.prog Tryz.f78 _ _ _ _
  refine bodyPost_ret (ck2_res rfl _ _ (w.heap.size+1) _ _ _ _ _ _ _ _ _ _ rfl rfl (setRow_heap _ _ _ _ _ _ HR1.out)) rfl ?_;exact ⟨C,_,_,_,_,_,_,_,_,⟨.inl rfl,fun _=>⟨rfl,rfl⟩⟩,rfl,(H.out.step (bl_setRow HW1.out (by omega) _)).weak (fun z _ hz=>(s1 z hz).1),bl_setRow HW1.out (by omega) _⟩
 ·have q0:decide ((q:Int)<0)=false:=dF (by omega)
  by_cases hv:getR y.c q≤0
  ·have hfq:∀w',Below w.heap.size w w'→Calls Tryz.prog 23 #[ckV (.slice (some ⟨bf,of,none⟩) C.files.length cf0) (.slice A2 m2 c2) (.slice A3 m3 c3) (.slice A4 m4 c4) (.slice A5 m5 c5) (.slice A6 m6 c6) (.slice A7 m7 c7),.int .i64 j,.int .i64 q] w' (fun e w''=>e = .returned (.tuple #[.int .i64 0,.bool false])∧Below w'.heap.size w' w''):=fun w' hb=>by
    have:=hfd q w' hb;unfold RetFd fdV at this;rw [if_pos hv] at this;exact this
   clear hfd hv
   go_wp2_with (first | (go_at_call 23;go_loud (refine CM (hfq _ HW1.out) ?_);rintro e w2 ⟨rfl,hb2⟩;have HX2:=bkh HX1 hb2;have HR2:=bkh HR1 hb2;have HW2:=blh HW1 hb2;clear hb2 x0 x1 x2 x3 x4 x5 x6;obtain ⟨x0,x1,x2,x3,x4,x5,x6⟩:=cs7 HX2.out) | (refine st_ck rfl (.tmp 6) (.tmp 32) rfl rfl (w.heap.size+1) rfl rfl HR2.out rfl ?_))
   show bodyPost Tryz.prog Tryz.f78 _ _ _ _
   refine bodyPost_ret (ck2_res rfl _ _ (w.heap.size+1) _ _ _ _ _ _ _ _ _ _ rfl rfl (setRow_heap _ _ _ _ _ _ HR2.out)) rfl ?_;exact ⟨C,_,_,_,_,_,_,_,_,⟨.inl rfl,fun h=>absurd (hs16 h) (by omega)⟩,rfl,(H.out.step (bl_setRow HW2.out (by omega) _)).weak (fun z _ hz=>(s1 z hz).1),bl_setRow HW2.out (by omega) _⟩
  ·obtain ⟨i,x,hgi,hU,hxp⟩:=HFO.out q (by omega);have hfq:∀w',Below w.heap.size w w'→Calls Tryz.prog 23 #[ckV (.slice (some ⟨bf,of,none⟩) C.files.length cf0) (.slice A2 m2 c2) (.slice A3 m3 c3) (.slice A4 m4 c4) (.slice A5 m5 c5) (.slice A6 m6 c6) (.slice A7 m7 c7),.int .i64 j,.int .i64 q] w' (fun e w''=>e = .returned (.tuple #[.int .i64 ((i:Int)+1),.bool true])∧Below w'.heap.size w' w''):=fun w' hb=>by
    have:=hfd q w' hb;unfold RetFd fdV at this;rw [if_neg hv,hgi] at this;exact this
   have HU:=H_ hU;obtain ⟨A2',cr0,ea,q3,q4⟩:=H.out.frames.form;injection ea with ea1 ea2 ea3
   subst ea1 ea2 ea3;obtain ⟨bb,o,rfl,hbl,y0,y1,y2,y3,y4,y5,y6,y7,y8⟩:=FrA.cells H.out.frames hU.fr;have hil:=(g_l hU.fr);have i2:(i:Int)<(C.frames.length:Int):=by omega
   have hl2:C.frames.length≤100:=HL.out.frames.2;clear hfd hv hgi hU hxp
   go_upto_region 7 with (go_at_call 23;go_loud (refine CM (hfq _ HW1.out) ?_);rintro e w2 ⟨rfl,hb2⟩;have HX2:=bkh HX1 hb2;have HR2:=bkh HR1 hb2;have HW2:=blh HW1 hb2;clear hb2 x0 x1 x2 x3 x4 x5 x6;obtain ⟨x0,x1,x2,x3,x4,x5,x6⟩:=cs7 HX2.out)
   replace y0:=(cell_kept (HW2.out.block _ hbl)).trans y0;replace y1:=(cell_kept (HW2.out.block _ hbl)).trans y1;replace y2:=(cell_kept (HW2.out.block _ hbl)).trans y2;replace y3:=(cell_kept (HW2.out.block _ hbl)).trans y3;replace y4:=(cell_kept (HW2.out.block _ hbl)).trans y4;replace y5:=(cell_kept (HW2.out.block _ hbl)).trans y5;replace y6:=(cell_kept (HW2.out.block _ hbl)).trans y6;replace y7:=(cell_kept (HW2.out.block _ hbl)).trans y7;replace y8:=(cell_kept (HW2.out.block _ hbl)).trans y8;have hz2:w.heap.size+1<w2.heap.size:=bk_lt HR2.out
   go_upto_region 8 with fail
   generalize hW9:w2.alloc _=W3;have HF3:=nah hW9;have HX3:=bah hW9 HX2;have HR3:=bah hW9 HR2;have HW3:=lah hW9 HW2;clear hW9;clear x0 x1 x2 x3 x4 x5 x6 y0 y1 y2 y3 y4 y5 y6 y7 y8;obtain ⟨x0,x1,x2,x3,x4,x5,x6⟩:=cs7 HX3.out;obtain ⟨f0,f1,f2,f3,f4,f5,f6,f7,f8⟩:=cs9 HF3.out
   cases d3:bits .andNot .i64 s x.pg.valid != 0 with
   | true=>
    go_wp2_with (refine st_ck rfl (.tmp 6) (.tmp 45) rfl rfl (w.heap.size+1) rfl rfl HR3.out rfl ?_)
    show bodyPost Tryz.prog Tryz.f78 _ _ _ _
    refine bodyPost_ret (ck2_res rfl _ _ (w.heap.size+1) _ _ _ _ _ _ _ _ _ _ rfl rfl (setRow_heap _ _ _ _ _ _ HR3.out)) rfl ?_;exact ⟨C,_,_,_,_,_,_,_,_,⟨.inl rfl,fun h=>absurd (hs16 h) (by omega)⟩,rfl,(H.out.step (bl_setRow HW3.out (by omega) _)).weak (fun z _ hz=>(s1 z hz).1),bl_setRow HW3.out (by omega) _⟩
   | false=>
    have hsl:=fun w'=>soil_w x.pg.data x.pg.valid x.pg.dirty s w' HU.out.ok.pg ⟨hs0,hs3⟩
    go_upto_region 11 with (first
     | (go_at_call 92;go_loud (with_reducible refine CM (hsl _) ?_);rintro e w5 ⟨rfl,hb5⟩;have HF4:=bkh HF3 hb5;have HX4:=bkh HX3 hb5;have HR4:=bkh HR3 hb5;have HW4:=blh HW3 hb5;clear hb5;have hth:=there_pg HF4.out)
     | (refine wpList_store_mid rfl 53 (.tmp 53) (.tmp 51) rfl w2.heap.size 2 #[.string (soilG x.pg s).data,.int .i64 (soilG x.pg s).valid,.int .i64 (soilG x.pg s).dirty] rfl rfl hth pg_size (pg_one _ _ _) ?_)
     | fail)
    have HF8:=H_ (fr_setPg (u:= .string (soilG x.pg s).data) (v:= .int .i64 (soilG x.pg s).valid) (z:= .int .i64 (soilG x.pg s).dirty) HF4.out);have HX8:=H_ ((heap_setCells w2.heap.size [.string (soilG x.pg s).data,.int .i64 (soilG x.pg s).valid,.int .i64 (soilG x.pg s).dirty] 2 w5 w.heap.size (by omega)).trans HX4.out);have HR8:=H_ ((heap_setCells w2.heap.size [.string (soilG x.pg s).data,.int .i64 (soilG x.pg s).valid,.int .i64 (soilG x.pg s).dirty] 2 w5 (w.heap.size+1) (by omega)).trans HR4.out);have HW8:=H_ (bl_setCells HW4.out (by omega:w.heap.size≤w2.heap.size) 2 [.string (soilG x.pg s).data,.int .i64 (soilG x.pg s).valid,.int .i64 (soilG x.pg s).dirty]);generalize w5.setCells w2.heap.size 2 _=W8 at HF8 HX8 HR8 HW8;clear x0 x1 x2 x3 x4 x5 x6 f0 f1 f2 f3 f4 f5 f6 f7 f8 hth d3;obtain ⟨x0,x1,x2,x3,x4,x5,x6⟩:=cs7 HX8.out;obtain ⟨f0,f1,f2,f3,f4,f5,f6,f7,f8⟩:=cs9 HF8.out;have HZ8:w.heap.size+1<W8.heap.size:=bk_lt HR8.out
    go_wp2_with (first
     | (go_at_call 90;go_loud (with_reducible refine CM (put_w40 C i j (⟨x.file,x.page,soilG x.pg s,x.tenant,x.holds,x.reading,x.writing⟩) y _ _ _ _ _ _ _ S1 _ (H.out.step HW8.out) HL.out hil HU.out.fl HU.out.ix (fun z hz=>s2 z (by omega))) ?_);rintro e w9 ⟨gf,nf,cf,gr,nr,cr,c',d',gl,nl,cl,gk,nk,ck,g',rfl,hc9,hb9⟩;obtain ⟨P3,n3,r3,rfl⟩:=hc9.zones.cap;obtain ⟨P4,n4,r4,rfl⟩:=hc9.groups.cap;obtain ⟨P7,n7,r7,rfl⟩:=hc9.ptes.cap;have HR9:=bkh HR8 hb9;have HW9:=blh HW8 hb9;have HC9:=H_ hc9;clear hc9 hb9)
     | (refine st_ck rfl (.tmp 6) (.tmp 57) rfl rfl (w.heap.size+1) rfl rfl HR9.out rfl ?_))
    show bodyPost Tryz.prog Tryz.f78 _ _ _ _
    refine bodyPost_ret (ck2_res rfl _ _ (w.heap.size+1) _ _ _ _ _ _ _ _ _ _ rfl rfl (setRow_heap _ _ _ _ _ _ HR9.out)) rfl ?_;exact ⟨putC C i j y ⟨x.file,x.page,soilG x.pg s,x.tenant,x.holds,x.reading,x.writing⟩,_,_,_,_,_,_,_,_,⟨.inr ⟨i,x,s,HU.out,hs0,hs3,rfl⟩,fun h=>absurd (hs16 h) (by omega)⟩,rfl,((HC9.out.setRow (w.heap.size+1) (R7_ gf nf cf gr nr cr (.slice P3 n3 r3) (.slice P4 n4 r4) gl nl cl gk nk ck (.slice P7 n7 r7)) (fun hz=>(s1 _ hz).2.2 rfl) (by omega)).weak (by omega) (fun z hz=>(s1 z hz).1) hS).at_,bl_setRow HW9.out (by omega) _⟩
end
end Go.Proofs.YthhekebemmckcaaGreatDoor
