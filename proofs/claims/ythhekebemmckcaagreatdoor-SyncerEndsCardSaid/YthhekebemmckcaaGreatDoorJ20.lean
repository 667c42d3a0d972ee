/-
  Lemmas and contracts for the laws of synchronisations (layer 43), part 20; several texts joined by a program.
-/
import Derived.Test.YthhekebemmckcaaGreatDoorJ01
import Derived.Test.YthhekebemmckcaaGreatDoorJ16
import Derived.Test.YthhekebemmckcaaGreatDoorJ19
namespace Go.Proofs.YthhekebemmckcaaGreatDoor
set_option linter.unusedVariables false
set_option linter.unusedSimpArgs false
set_option maxRecDepth 100000
set_option maxHeartbeats 16000000
open Go.RowKit
section
def PutQ (C:Ck) (i j:Nat) (x:Fr) (y:Fl) (C':Ck):Prop:=C'=C∨∃x' y',FrOk x'∧x'.file=x.file∧x'.page=x.page∧x'.tenant=x.tenant∧y'.c=y.c∧y'.size=y.size∧y'.slot=y.slot∧ErOk y'.ecnt y'.eerr∧C'=putC C i j y' x'
theorem PutP.q {C C':Ck} {i j:Nat} {x:Fr} {y:Fl} (h:PutP C i j x y C') (he:ErOk y.ecnt y.eerr):PutQ C i j x y C':=by
 rcases h with h | ⟨x',h1,h2,h3,h4,h5⟩
 ·exact .inl h
 ·exact .inr ⟨x',y,h1,h2,h3,h4,rfl,rfl,rfl,he,h5⟩
theorem fr_setPg {w:World} {b:Nat} {a0 a1 a2 a3 a4 a5 a6 a7 a8 u v z:Value} {t:TypeId} {fr:Nat × Nat} (h:w.heap[b]?=some (.cells #[a0,a1,a2,a3,a4,a5,a6,a7,a8] t fr)):(w.setCells b 2 [u,v,z]).heap[b]?=some (.cells #[a0,a1,u,v,z,a5,a6,a7,a8] t fr):=by
 simp only [World.setCells];exact set_same (set_same (set_same h _) _) _
theorem there_pg {w:World} {b:Nat} {a0 a1 a2 a3 a4 a5 a6 a7 a8:Value} {t:TypeId} (h:w.heap[b]?=some (.cells #[a0,a1,a2,a3,a4,a5,a6,a7,a8] t (0,0))):w.there b 2 3:=fun j hj=>by
 rw [cells_at h,free_at h];obtain rfl | rfl | rfl:j=0∨j=1∨j=2:=by omega
 all_goals exact ⟨rfl,rfl⟩
theorem soilG_ok {p:Pg} (h:PgOk p) {s:Int} (hs:0≤s∧s≤3):PgOk (soilG p s):=by
 obtain ⟨d,v,y⟩:=p;obtain ⟨h1,h2,h3,h4⟩:=h
 dsimp only at h1 h2 h3 h4
 refine ⟨h1,h2,?_,?_⟩
 all_goals
  show _
  simp only [soilG];obtain rfl | rfl | rfl | rfl:v=0∨v=1∨v=2∨v=3:=by omega
  all_goals (obtain rfl | rfl | rfl | rfl:y=0∨y=1∨y=2∨y=3:=by omega)
  all_goals (obtain rfl | rfl | rfl | rfl:s=0∨s=1∨s=2∨s=3:=by omega)
  all_goals first
   | decide
   | exact absurd h4 (by decide)
theorem recE_ok {c e err:Int} (h:ErOk c e) (he:err≠0):ErOk (recE c e err).1 (recE c e err).2.1:=by
 obtain ⟨h1,h2,h3⟩:=h;unfold recE
 by_cases hc:c=1000000
 ·rw [if_pos hc];exact ⟨h1,h2,h3⟩
 ·rw [if_neg hc];exact ⟨by show 0≤c+1;omega,by show c+1≤1000000;omega,⟨fun h=>absurd (show c+1=0 from h) (by omega),fun h=>absurd (show err=0 from h) he⟩⟩
theorem LW.fl_at {w:World} {S:Nat→Prop} {g:Nat} {L:List Fl} (h:LW FlR w S g L) {j:Nat} {y:Fl} (hj:L[j]?=some y):w.cell? ⟨g,j*15+7,none⟩=some (.int .i64 y.blocks)∧w.cell? ⟨g,j*15+8,none⟩=some (.int .i64 y.ecnt)∧w.cell? ⟨g,j*15+9,none⟩=some (.int .i64 y.eerr)∧w.cell? ⟨g,j*15+6,none⟩=some (.int .i64 y.size):=by
 obtain ⟨r,⟨h',A,cap,_,_,_,_,rfl⟩,hc⟩:=h.at_ hj;exact ⟨hc 7 _ rfl,hc 8 _ rfl,hc 9 _ rfl,hc 6 _ rfl⟩
theorem LW.blocks {w:World} {S:Nat→Prop} {g:Nat} {L:List Fl} (h:LW FlR w S g L) {j:Nat} {y:Fl} (hj:L[j]?=some y) (v:Int):LW FlR (w.setCell ⟨g,j*15+7,none⟩ (.int .i64 v)) S g (L.set j {y with blocks:=v}):=
 h.setOne hj (by omega) rfl fun r ⟨h',A,cap,k1,k2,k3,k4,e⟩=>by subst e;exact ⟨h',A,cap,k1,k2,k3,k4,rfl⟩
theorem LW.errs {w:World} {S:Nat→Prop} {g:Nat} {L:List Fl} (h:LW FlR w S g L) {j:Nat} {y:Fl} (hj:L[j]?=some y) (c e:Int):LW FlR (w.setCells g (j*15+8) [.int .i64 c,.int .i64 e]) S g (L.set j {y with ecnt:=c,eerr:=e}):=
 h.setPart hj (by show 8+2≤15;omega) (fun u hu=>by simp at hu;rcases hu with rfl | rfl <;> rfl) fun r ⟨h',A,cap,k1,k2,k3,k4,e⟩=>by subst e;exact ⟨h',A,cap,k1,k2,k3,k4,rfl⟩
theorem putC_blocks (C:Ck) (i j:Nat) (y:Fl) (x:Fr) (v:Int):{putC C i j y x with files:=(markFs C.files j y x).set j {y with c:=markC y.c x.page (x.pg.dirty != 0) (x.writing != 0),blocks:=v}}=putC C i j {y with blocks:=v} x:=by
 simp only [putC,markFs,List.set_set]
theorem putC_errs (C:Ck) (i j:Nat) (y:Fl) (x:Fr) (c e:Int):{putC C i j y x with files:=(markFs C.files j y x).set j {y with c:=markC y.c x.page (x.pg.dirty != 0) (x.writing != 0),ecnt:=c,eerr:=e}}=putC C i j {y with ecnt:=c,eerr:=e} x:=by
 simp only [putC,markFs,List.set_set]
theorem end_w (C:Ck) (i j:Nat) (x:Fr) (y:Fl) (n:Int) (a b c d e f g:Value) (S:Nat→Prop) (w:World) (h:CkAt w S a b c d e f g C) (hl:CkOk C) (hu:FrU C i x j y) (her:ErOk y.ecnt y.eerr) (hS:∀z,w.heap.size≤z→S z) :
  Calls Tryz.prog 49 #[ckV a b c d e f g,.int .i64 ((i:Int)+1),.int .i64 n] w (RetCkE (PutQ C i j x y) S w):=by
 obtain ⟨S1,s1,s2,s3⟩:=s1set hS;replace h:=h.weak s3;clear s3;have hus:=fun w' (hb:Below w.heap.size w w')=>used_w C i x a b c d e f g S1 w' (h.step hb) hu.fr hl.frames.2;rw [hu.used] at hus;obtain ⟨A1,cf0,rfl,q1,q2⟩:=h.files.form;obtain ⟨A2,cr0,rfl,q3,q4⟩:=h.frames.form;obtain ⟨A3,m3,c3,A4,m4,c4,A5,m5,c5,A6,m6,c6,A7,m7,c7,rfl,rfl,rfl,rfl,rfl⟩:=CkAt.caps5 h;obtain ⟨bb,o,rfl,hbl,y0,y1,y2,y3,y4,y5,y6,y7,y8⟩:=FrA.cells h.frames hu.fr;obtain ⟨bf,of,kt,KB,kc,rfl,hbf,k1,k2,k3,k4,hcf⟩:=FlA.cells h.files hu.fl;have hil:=(g_l hu.fr);have hjl:=(g_l hu.fl);have i2:(i:Int)<(C.frames.length:Int):=by omega
 have hl2:C.frames.length≤100:=hl.frames.2;have hl1:C.files.length≤100:=hl.files.2;have j2:(j:Int)<(C.files.length:Int):=by omega
 have H:=H_ h;have HL:=H_ hl;have HU:=H_ hu;clear h hl hu k1 k2 k3 k4;go_enter Tryz.func49,Tryz.ntmps49
 go_upto_region 1 with fail
 generalize hW9:(w.alloc _).alloc _=W;obtain ⟨HX,HR,HW,HZ⟩:=two_box hW9;clear hW9;have HW0:=HW.out;obtain ⟨x0,x1,x2,x3,x4,x5,x6⟩:=cs7 HX.out
 go_upto_region 3 with (go_at_call 86;(with_reducible refine CM (hus _ (by assumption)) ?_);rintro e w1 ⟨rfl,hb1⟩;have HX1:=bkh HX hb1;have HR1:=bkh HR hb1;have HW1:=blh HW hb1;have HZ1:=hb1.size;clear hb1)
 clear x0 x1 x2 x3 x4 x5 x6 HW0;obtain ⟨x0,x1,x2,x3,x4,x5,x6⟩:=cs7 HX1.out;replace y0:=(cell_kept (HW1.out.block _ hbl)).trans y0;replace y1:=(cell_kept (HW1.out.block _ hbl)).trans y1;replace y2:=(cell_kept (HW1.out.block _ hbl)).trans y2;replace y3:=(cell_kept (HW1.out.block _ hbl)).trans y3;replace y4:=(cell_kept (HW1.out.block _ hbl)).trans y4;replace y5:=(cell_kept (HW1.out.block _ hbl)).trans y5;replace y6:=(cell_kept (HW1.out.block _ hbl)).trans y6;replace y7:=(cell_kept (HW1.out.block _ hbl)).trans y7;replace y8:=(cell_kept (HW1.out.block _ hbl)).trans y8
 go_upto_region 4 with fail
 generalize hW9:w1.alloc _=W2;have HF:=nah hW9;have HX2:=bah hW9 HX1;have HR2:=bah hW9 HR1;have HW2:=lah hW9 HW1;clear hW9;clear x0 x1 x2 x3 x4 x5 x6 y0 y1 y2 y3 y4 y5 y6 y7 y8;obtain ⟨x0,x1,x2,x3,x4,x5,x6⟩:=cs7 HX2.out;obtain ⟨f0,f1,f2,f3,f4,f5,f6,f7,f8⟩:=cs9 HF.out;have HFZ:w.heap.size≤w1.heap.size∧w.heap.size+1<w1.heap.size:=⟨by omega,by omega⟩;have HER:=H_ her;clear her;obtain ⟨p,hp⟩:∃p:Nat,x.page=p:=⟨x.page.toNat,by have:=HU.out.ok.page;omega⟩;have hp8:p<8:=by have:=HU.out.ok.page;omega
 have HP:=H_ hp;clear hp
 by_cases hw0:x.writing=0
 ·have d3:(x.writing == 0)=true:=by simp [hw0]
  clear hw0
  go_wp2_with (refine st_ck rfl (.tmp 6) (.tmp 25) rfl rfl (w.heap.size+1) rfl rfl HR2.out rfl ?_)
  show bodyPost Tryz.prog Tryz.f49 _ _ _ _
  refine bodyPost_ret (ck2_res rfl _ _ (w.heap.size+1) _ _ _ _ _ _ _ _ _ _ rfl rfl (setRow_heap _ _ _ _ _ _ HR2.out)) rfl ?_;exact ⟨C,_,_,_,_,_,_,_,_,.inl rfl,rfl,(H.out.step (bl_setRow HW2.out (by omega) _)).weak (fun z _ hz=>(s1 z hz).1),bl_setRow HW2.out (by omega) _⟩
 ·have d3:(x.writing == 0)=false:=by simp [hw0]
  clear hw0;have hfz:=free_at HF.out 8
  by_cases he:n=0
  ·subst he
   go_upto_region 10 with fail
   have HF3:=H_ (show (W2.setCell ⟨w1.heap.size,8,none⟩ (.int .i64 0)).heap[w1.heap.size]?=some (.cells #[.int .i64 x.file,.int .i64 x.page,.string x.pg.data,.int .i64 x.pg.valid,.int .i64 x.pg.dirty,.int .i64 x.tenant,.int .i64 x.holds,.int .i64 x.reading,.int .i64 0] 55 (0,0)) from set_same HF.out _);have HX3:=H_ ((Below.heap_setCell W2 ⟨w1.heap.size,8,none⟩ (.int .i64 0) w.heap.size (by show w.heap.size≠w1.heap.size;omega)).trans HX2.out);have HR3:=H_ ((Below.heap_setCell W2 ⟨w1.heap.size,8,none⟩ (.int .i64 0) (w.heap.size+1) (by show w.heap.size+1≠w1.heap.size;omega)).trans HR2.out);have HW3:=H_ (bl_set HW2.out ⟨w1.heap.size,8,none⟩ (.int .i64 0) (by show w.heap.size≤w1.heap.size;omega));generalize W2.setCell ⟨w1.heap.size,8,none⟩ (.int .i64 0)=W3 at HF3 HX3 HR3 HW3;clear x0 x1 x2 x3 x4 x5 x6 f0 f1 f2 f3 f4 f5 f6 f7 f8;clear hfz d3;obtain ⟨x0,x1,x2,x3,x4,x5,x6⟩:=cs7 HX3.out;obtain ⟨f0,f1,f2,f3,f4,f5,f6,f7,f8⟩:=cs9 HF3.out;have HZ3:w.heap.size+1<W3.heap.size:=bk_lt HR3.out
   go_upto_region 12 with (go_at_call 90;go_loud (with_reducible refine CM (put_w40 C i j (⟨x.file,x.page,x.pg,x.tenant,x.holds,x.reading,0⟩) y _ _ _ _ _ _ _ S1 _ (H.out.step HW3.out) HL.out hil HU.out.fl HU.out.ix (fun z hz=>s2 z (by omega))) ?_);rintro e w4 ⟨gf,nf,cf,gr,nr,cr,c',d',gl,nl,cl,gk,nk,ck,g',rfl,hc4,hb4⟩;obtain ⟨P3,n3,r3,rfl⟩:=hc4.zones.cap;obtain ⟨P4,n4,r4,rfl⟩:=hc4.groups.cap;obtain ⟨P7,n7,r7,rfl⟩:=hc4.ptes.cap;have HR4:=bkh HR3 hb4;have HF4:=bkh HF3 hb4;have HX4:=bkh HX3 hb4;have HW4:=blh HW3 hb4;have HC4:=H_ hc4;have HB4:=H_ hb4;clear hc4 hb4)
   have hp:=HP.out;have HO5:=H_ (heap_at_new w4 (.cells ((R7_ gf nf cf gr nr cr (.slice P3 n3 r3) (.slice P4 n4 r4) gl nl cl gk nk ck (.slice P7 n7 r7))) 30) w4.heap.size rfl);have HR5:=H_ (bk_alloc HR4.out (.cells ((R7_ gf nf cf gr nr cr (.slice P3 n3 r3) (.slice P4 n4 r4) gl nl cl gk nk ck (.slice P7 n7 r7))) 30));have HF5:=H_ (bk_alloc HF4.out (.cells ((R7_ gf nf cf gr nr cr (.slice P3 n3 r3) (.slice P4 n4 r4) gl nl cl gk nk ck (.slice P7 n7 r7))) 30));have HW5:=H_ (bl_alloc HW4.out (.cells ((R7_ gf nf cf gr nr cr (.slice P3 n3 r3) (.slice P4 n4 r4) gl nl cl gk nk ck (.slice P7 n7 r7))) 30));have HC5:=H_ (HC4.out.step (bl_alloc (Below.refl w4.heap.size w4) (.cells ((R7_ gf nf cf gr nr cr (.slice P3 n3 r3) (.slice P4 n4 r4) gl nl cl gk nk ck (.slice P7 n7 r7))) 30)));have HZ4:w.heap.size+1<w4.heap.size∧w1.heap.size<w4.heap.size∧W3.heap.size≤w4.heap.size∧gk<w4.heap.size:=⟨bk_lt HR4.out,bk_lt HF4.out,HB4.out.size,HC4.out.lt⟩;generalize w4.alloc (.cells ((R7_ gf nf cf gr nr cr (.slice P3 n3 r3) (.slice P4 n4 r4) gl nl cl gk nk ck (.slice P7 n7 r7))) 30)=W5 at HO5 HR5 HF5 HW5 HC5;clear x0 x1 x2 x3 x4 x5 x6 f0 f1 f2 f3 f4 f5 f6 f7 f8;obtain ⟨x0,x1,x2,x3,x4,x5,x6⟩:=cs7 HO5.out;obtain ⟨f0,f1,f2,f3,f4,f5,f6,f7,f8⟩:=cs9 HF5.out;rw [HU.out.ix] at f0;rw [hp] at f1;obtain ⟨z7,z8,z9,z6⟩:=LW.fl_at HC5.out.files (List.getElem?_set_self hjl);have hnf:(j:Int)<(nf:Int):=by have:=HC5.out.ef;simp [putC,markFs] at this;omega
   have hcf:nf≤1000:=by have:=HC5.out.ef;simp [putC,markFs] at this;omega
   have hlo:=bk_lt HO5.out;have hlf:=bk_lt HF5.out;have hlg:=HC5.out.files.lt;clear hp
   go_cut [] (fun wx=>CpL wx S1 W3.heap.size gf nf cf gr nr cr (.slice P3 n3 r3) (.slice P4 n4 r4) gl nl cl gk nk ck (.slice P7 n7 r7) (putC C i j ⟨y.dev,y.slot,y.c,y.size,bits .or .i64 y.blocks (wrap64 (2 ^ p)),y.ecnt,y.eerr,y.sseq,y.ssize,y.sblocks,y.which,y.seq⟩ ⟨x.file,x.page,x.pg,x.tenant,x.holds,x.reading,0⟩)∧wx.heap[w4.heap.size]?=some (.cells ((R7_ gf nf cf gr nr cr (.slice P3 n3 r3) (.slice P4 n4 r4) gl nl cl gk nk ck (.slice P7 n7 r7))) 30 (0,0))∧wx.heap[w.heap.size+1]?=some (oCZ)∧Below w.heap.size w wx)
   case first=>
    refine wp_region_sk (S:=TS S1 gf gr gl gk) 77 13 (fun i=>decide (i≤12)) (fun wx=>CpL wx S1 W3.heap.size gf nf cf gr nr cr (.slice P3 n3 r3) (.slice P4 n4 r4) gl nl cl gk nk ck (.slice P7 n7 r7) (putC C i j ⟨y.dev,y.slot,y.c,y.size,bits .or .i64 y.blocks (wrap64 (2 ^ p)),y.ecnt,y.eerr,y.sseq,y.ssize,y.sblocks,y.which,y.seq⟩ ⟨x.file,x.page,x.pg,x.tenant,x.holds,x.reading,0⟩)∧wx.heap[w4.heap.size]?=some (.cells ((R7_ gf nf cf gr nr cr (.slice P3 n3 r3) (.slice P4 n4 r4) gl nl cl gk nk ck (.slice P7 n7 r7))) 30 (0,0))∧wx.heap[w.heap.size+1]?=some (oCZ)∧Below w.heap.size w wx) [SK.eq (.pointer (some ⟨w4.heap.size,0,none⟩)),SK.eq (.slice (some ⟨gf,0,none⟩) nf cf),SK.eq (.pointer (some ⟨w1.heap.size,0,none⟩)),SK.eq (.int .i64 (j:Int)),SK.eq (.pointer (some ⟨gf,j*15,none⟩)),SK.eq (.pointer (some ⟨gf,j*15+7,none⟩)),SK.eq (.int .i64 y.blocks),SK.eq (.pointer (some ⟨w1.heap.size,1,none⟩)),SK.eq (.int .i64 (p:Int)),SK.eq (.int .i64 (wrap64 (2 ^ p))),SK.eq (.int .i64 (bits .or .i64 y.blocks (wrap64 (2 ^ p)))),SK.eq (.pointer (some ⟨gf,j*15,none⟩)),SK.eq (.pointer (some ⟨gf,j*15+7,none⟩)),SK.any] (by kernel_rfl) (by kernel_rfl) rfl (fun _=>trivial) ?_;refine rP rfl rfl (fun xw hC hd K hK=>?_) (fun v0=>?_)
    ·go_simp;exact hK _ _ hC K_ rfl
    simp only [ly];refine rP rfl rfl (fun xw hC hd K hK=>?_) (fun v1=>?_)
    ·obtain rfl:v0=_:=hd 0 (by kernel_rfl);have hC':Below W5.heap.size W5 xw:=hC;have u0:=(hC'.cell (p:=⟨w4.heap.size,_,none⟩) hlo).trans x0;go_simp;exact hK _ _ hC K_ rfl
    simp only [ly];refine rP rfl rfl (fun xw hC hd K hK=>?_) (fun v2=>?_)
    ·go_simp;exact hK _ _ hC K_ rfl
    simp only [ly];refine rP rfl rfl (fun xw hC hd K hK=>?_) (fun v3=>?_)
    ·obtain rfl:v2=_:=hd 2 (by kernel_rfl);have hC':Below W5.heap.size W5 xw:=hC;have u0:=(hC'.cell (p:=⟨w1.heap.size,_,none⟩) hlf).trans f0;go_simp;exact hK _ _ hC K_ rfl
    simp only [ly];refine rP rfl rfl (fun xw hC hd K hK=>?_) (fun v4=>?_)
    ·obtain rfl:v1=_:=hd 1 (by kernel_rfl);obtain rfl:v3=_:=hd 3 (by kernel_rfl);go_simp;exact hK _ _ hC K_ rfl
    simp only [ly];refine rP rfl rfl (fun xw hC hd K hK=>?_) (fun v5=>?_)
    ·obtain rfl:v4=_:=hd 4 (by kernel_rfl);go_simp;exact hK _ _ hC K_ rfl
    simp only [ly];refine rP rfl rfl (fun xw hC hd K hK=>?_) (fun v6=>?_)
    ·obtain rfl:v5=_:=hd 5 (by kernel_rfl);have hC':Below W5.heap.size W5 xw:=hC;have u0:=(hC'.cell (p:=⟨gf,_,none⟩) hlg).trans z7;go_simp;exact hK _ _ hC K_ rfl
    simp only [ly];refine rP rfl rfl (fun xw hC hd K hK=>?_) (fun v7=>?_)
    ·go_simp;exact hK _ _ hC K_ rfl
    simp only [ly];refine rP rfl rfl (fun xw hC hd K hK=>?_) (fun v8=>?_)
    ·obtain rfl:v7=_:=hd 7 (by kernel_rfl);have hC':Below W5.heap.size W5 xw:=hC;have u0:=(hC'.cell (p:=⟨w1.heap.size,_,none⟩) hlf).trans f1;go_simp;exact hK _ _ hC K_ rfl
    simp only [ly];refine rP rfl rfl (fun xw hC hd K hK=>?_) (fun v9=>?_)
    ·obtain rfl:v8=_:=hd 8 (by kernel_rfl);go_simp;exact hK _ _ hC K_ (by first | rfl | (show Value.int _ _=Value.int _ _;simp;done) | (show Value.int _ _=Value.int _ _;simp [IntKind.wrap_i64,wrap64];done) | (show Value.int _ _=Value.int _ _;simp [IntKind.wrap_i64];omega))
    simp only [ly];refine rP rfl rfl (fun xw hC hd K hK=>?_) (fun v10=>?_)
    ·obtain rfl:v6=_:=hd 6 (by kernel_rfl);obtain rfl:v9=_:=hd 9 (by kernel_rfl);go_simp;exact hK _ _ hC K_ (by first | rfl | (show Value.int _ _=Value.int _ _;simp;done) | (show Value.int _ _=Value.int _ _;simp [IntKind.wrap_i64,wrap64];done) | (show Value.int _ _=Value.int _ _;simp [IntKind.wrap_i64];omega))
    simp only [ly];refine rP rfl rfl (fun xw hC hd K hK=>?_) (fun v11=>?_)
    ·obtain rfl:v1=_:=hd 1 (by kernel_rfl);obtain rfl:v3=_:=hd 3 (by kernel_rfl);go_simp;exact hK _ _ hC K_ rfl
    simp only [ly];refine rP rfl rfl (fun xw hC hd K hK=>?_) (fun v12=>?_)
    ·obtain rfl:v11=_:=hd 11 (by kernel_rfl);go_simp;exact hK _ _ hC K_ rfl
    simp only [ly];refine rS (fun xw hC hd K hK=>?_) (fun v13=>?_)
    ·obtain rfl:v12=_:=hd 12 (by kernel_rfl);obtain rfl:v10=_:=hd 10 (by kernel_rfl);have hC':Below W5.heap.size W5 xw:=hC;have HC6:=HC5.out.step hC';obtain ⟨⟨u,hu⟩,hfz⟩:=HC6.files.slot (i:=j) (by simp [putC,markFs];omega) (p:=7) (by omega);have hne:gf≠w.heap.size+1∧gf≠w4.heap.size∧w.heap.size≤gf:=by have:=HC6.o1;have:=HC6.o2;have:=HC6.o3;have:=HC6.o4;omega
     go_simp;have hfin:=HC6.putFiles (gb_setCells xw gf (j*15+7) [.int .i64 (bits .or .i64 y.blocks (wrap64 (2 ^ p)))]) (HC6.files.blocks (List.getElem?_set_self hjl) _) (by simp [putC,markFs]);refine hK undef _ ⟨by rw [←putC_blocks C i j y (⟨x.file,x.page,x.pg,x.tenant,x.holds,x.reading,0⟩)];exact hfin,?_,?_,?_⟩ (KeepS.of_setCell _ _ _ (fun h=>h.2.1 rfl)) trivial
     ·exact (Below.heap_setCell xw ⟨gf,j*15+7,none⟩ _ w4.heap.size (fun h=>hne.2.1 h.symm)).trans (bk_step HO5.out hC')
     ·exact (Below.heap_setCell xw ⟨gf,j*15+7,none⟩ _ (w.heap.size+1) (fun h=>hne.1 h.symm)).trans (bk_step HR5.out hC')
     ·exact bl_set (bl_step HW5.out hC') ⟨gf,j*15+7,none⟩ _ hne.2.2
    simp only [ly];refine relWalkA_nil ?_;intro wz hD hG;clear hG;go_wp2;go_meet
    case rel=>exact hD
   case rest=>
    clear x0 x1 x2 x3 x4 x5 x6 f0 f1 f2 f3 f4 f5 f6 f7 f8 z6 z7 z8 z9 hlo hlf hlg HO5 HF5 HR5 HW5 HC5 HR4 HF4 HX4 HW4;obtain ⟨hC6,hO6,hR6,hW6⟩:=hcut;have HC6:=H_ hC6;have HR6:=H_ hR6;have HW6:=H_ hW6;clear hC6 hR6 hW6;obtain ⟨x0,x1,x2,x3,x4,x5,x6⟩:=cs7 hO6
    go_wp2_with (refine st_ck rfl (.tmp 6) (.tmp 76) rfl rfl (w.heap.size+1) rfl rfl HR6.out rfl ?_)
    show bodyPost Tryz.prog Tryz.f49 _ _ _ _
    refine bodyPost_ret (ck2_res rfl _ _ (w.heap.size+1) _ _ _ _ _ _ _ _ _ _ rfl rfl (setRow_heap _ _ _ _ _ _ HR6.out)) rfl ?_;refine ⟨_,_,_,_,_,_,_,_,_,?_,rfl,((HC6.out.setRow (w.heap.size+1) (R7_ gf nf cf gr nr cr (.slice P3 n3 r3) (.slice P4 n4 r4) gl nl cl gk nk ck (.slice P7 n7 r7)) (fun hz=>(s1 _ hz).2.2 rfl) (by omega)).weak (by omega) (fun z hz=>(s1 z hz).1) hS).at_,bl_setRow HW6.out (by omega) _⟩;exact .inr ⟨⟨x.file,x.page,x.pg,x.tenant,x.holds,x.reading,0⟩,⟨y.dev,y.slot,y.c,y.size,bits .or .i64 y.blocks (wrap64 (2 ^ p)),y.ecnt,y.eerr,y.sseq,y.ssize,y.sblocks,y.which,y.seq⟩,⟨HU.out.ok.page,HU.out.ok.tenant,HU.out.ok.pg,HU.out.ok.holds,HU.out.ok.reading,⟨by show (0:Int)≤0;omega,by show (0:Int)≤3;omega⟩⟩,rfl,rfl,rfl,rfl,rfl,rfl,HER.out,rfl⟩
  ·have e1:(n != 0)=true:=bne_iff_ne.2 he;have e2:(n == 0)=false:=beq_eq_false_iff_ne.2 he;have HE:=H_ he;clear he
   go_upto_region 9 with fail
   have HF9:=H_ (show (W2.setCell ⟨w1.heap.size,8,none⟩ (.int .i64 0)).heap[w1.heap.size]?=some (.cells #[.int .i64 x.file,.int .i64 x.page,.string x.pg.data,.int .i64 x.pg.valid,.int .i64 x.pg.dirty,.int .i64 x.tenant,.int .i64 x.holds,.int .i64 x.reading,.int .i64 0] 55 (0,0)) from set_same HF.out _);have HX9:=H_ ((Below.heap_setCell W2 ⟨w1.heap.size,8,none⟩ (.int .i64 0) w.heap.size (by show w.heap.size≠w1.heap.size;omega)).trans HX2.out);have HR9:=H_ ((Below.heap_setCell W2 ⟨w1.heap.size,8,none⟩ (.int .i64 0) (w.heap.size+1) (by show w.heap.size+1≠w1.heap.size;omega)).trans HR2.out);have HW9:=H_ (bl_set HW2.out ⟨w1.heap.size,8,none⟩ (.int .i64 0) (by show w.heap.size≤w1.heap.size;omega));generalize W2.setCell ⟨w1.heap.size,8,none⟩ (.int .i64 0)=W9 at HF9 HX9 HR9 HW9;clear x0 x1 x2 x3 x4 x5 x6 f0 f1 f2 f3 f4 f5 f6 f7 f8;clear hfz d3;obtain ⟨f0,f1,f2,f3,f4,f5,f6,f7,f8⟩:=cs9 HF9.out;have hsl:=fun w'=>soil_w x.pg.data x.pg.valid x.pg.dirty x.writing w' HU.out.ok.pg HU.out.ok.writing
   go_upto_region 10 with (first
    | (go_at_call 92;go_loud (with_reducible refine CM (hsl _) ?_);rintro e w5 ⟨rfl,hb5⟩;have HF7:=bkh HF9 hb5;have HX7:=bkh HX9 hb5;have HR7:=bkh HR9 hb5;have HW7:=blh HW9 hb5;clear hb5;have hth:=there_pg HF7.out)
    | (refine wpList_store_mid rfl 53 (.tmp 38) (.tmp 36) rfl w1.heap.size 2 #[.string (soilG x.pg x.writing).data,.int .i64 (soilG x.pg x.writing).valid,.int .i64 (soilG x.pg x.writing).dirty] rfl rfl hth pg_size (pg_one _ _ _) ?_)
    | fail)
   have HF3:=H_ (fr_setPg (u:= .string (soilG x.pg x.writing).data) (v:= .int .i64 (soilG x.pg x.writing).valid) (z:= .int .i64 (soilG x.pg x.writing).dirty) HF7.out);have HX3:=H_ ((heap_setCells w1.heap.size [.string (soilG x.pg x.writing).data,.int .i64 (soilG x.pg x.writing).valid,.int .i64 (soilG x.pg x.writing).dirty] 2 w5 w.heap.size (by omega)).trans HX7.out);have HR3:=H_ ((heap_setCells w1.heap.size [.string (soilG x.pg x.writing).data,.int .i64 (soilG x.pg x.writing).valid,.int .i64 (soilG x.pg x.writing).dirty] 2 w5 (w.heap.size+1) (by omega)).trans HR7.out);have HW3:=H_ (bl_setCells HW7.out (by omega:w.heap.size≤w1.heap.size) 2 [.string (soilG x.pg x.writing).data,.int .i64 (soilG x.pg x.writing).valid,.int .i64 (soilG x.pg x.writing).dirty]);generalize w5.setCells w1.heap.size 2 _=W3 at HF3 HX3 HR3 HW3;clear f0 f1 f2 f3 f4 f5 f6 f7 f8 hth;obtain ⟨x0,x1,x2,x3,x4,x5,x6⟩:=cs7 HX3.out;obtain ⟨f0,f1,f2,f3,f4,f5,f6,f7,f8⟩:=cs9 HF3.out;have HZ3:w.heap.size+1<W3.heap.size:=bk_lt HR3.out
   go_upto_region 13 with (go_at_call 90;go_loud (with_reducible refine CM (put_w40 C i j (⟨x.file,x.page,soilG x.pg x.writing,x.tenant,x.holds,x.reading,0⟩) y _ _ _ _ _ _ _ S1 _ (H.out.step HW3.out) HL.out hil HU.out.fl HU.out.ix (fun z hz=>s2 z (by omega))) ?_);rintro e w4 ⟨gf,nf,cf,gr,nr,cr,c',d',gl,nl,cl,gk,nk,ck,g',rfl,hc4,hb4⟩;obtain ⟨P3,n3,r3,rfl⟩:=hc4.zones.cap;obtain ⟨P4,n4,r4,rfl⟩:=hc4.groups.cap;obtain ⟨P7,n7,r7,rfl⟩:=hc4.ptes.cap;have HR4:=bkh HR3 hb4;have HF4:=bkh HF3 hb4;have HX4:=bkh HX3 hb4;have HW4:=blh HW3 hb4;have HC4:=H_ hc4;have HB4:=H_ hb4;clear hc4 hb4)
   have hp:=HP.out;have HO5:=H_ (heap_at_new w4 (.cells ((R7_ gf nf cf gr nr cr (.slice P3 n3 r3) (.slice P4 n4 r4) gl nl cl gk nk ck (.slice P7 n7 r7))) 30) w4.heap.size rfl);have HR5:=H_ (bk_alloc HR4.out (.cells ((R7_ gf nf cf gr nr cr (.slice P3 n3 r3) (.slice P4 n4 r4) gl nl cl gk nk ck (.slice P7 n7 r7))) 30));have HF5:=H_ (bk_alloc HF4.out (.cells ((R7_ gf nf cf gr nr cr (.slice P3 n3 r3) (.slice P4 n4 r4) gl nl cl gk nk ck (.slice P7 n7 r7))) 30));have HW5:=H_ (bl_alloc HW4.out (.cells ((R7_ gf nf cf gr nr cr (.slice P3 n3 r3) (.slice P4 n4 r4) gl nl cl gk nk ck (.slice P7 n7 r7))) 30));have HC5:=H_ (HC4.out.step (bl_alloc (Below.refl w4.heap.size w4) (.cells ((R7_ gf nf cf gr nr cr (.slice P3 n3 r3) (.slice P4 n4 r4) gl nl cl gk nk ck (.slice P7 n7 r7))) 30)));have HZ4:w.heap.size+1<w4.heap.size∧w1.heap.size<w4.heap.size∧W3.heap.size≤w4.heap.size∧gk<w4.heap.size:=⟨bk_lt HR4.out,bk_lt HF4.out,HB4.out.size,HC4.out.lt⟩;generalize w4.alloc (.cells ((R7_ gf nf cf gr nr cr (.slice P3 n3 r3) (.slice P4 n4 r4) gl nl cl gk nk ck (.slice P7 n7 r7))) 30)=W5 at HO5 HR5 HF5 HW5 HC5;clear x0 x1 x2 x3 x4 x5 x6 f0 f1 f2 f3 f4 f5 f6 f7 f8;obtain ⟨x0,x1,x2,x3,x4,x5,x6⟩:=cs7 HO5.out;obtain ⟨f0,f1,f2,f3,f4,f5,f6,f7,f8⟩:=cs9 HF5.out;rw [HU.out.ix] at f0;rw [hp] at f1;obtain ⟨z7,z8,z9,z6⟩:=LW.fl_at HC5.out.files (List.getElem?_set_self hjl);have hnf:(j:Int)<(nf:Int):=by have:=HC5.out.ef;simp [putC,markFs] at this;omega
   have hcf:nf≤1000:=by have:=HC5.out.ef;simp [putC,markFs] at this;omega
   have hlo:=bk_lt HO5.out;have hlf:=bk_lt HF5.out;have hlg:=HC5.out.files.lt;clear hp;have hrec:=fun w'=>record_w y.ecnt y.eerr n w' HER.out HE.out
   go_cut [] (fun wx=>CpL wx S1 W3.heap.size gf nf cf gr nr cr (.slice P3 n3 r3) (.slice P4 n4 r4) gl nl cl gk nk ck (.slice P7 n7 r7) (putC C i j ⟨y.dev,y.slot,y.c,y.size,y.blocks,(recE y.ecnt y.eerr n).1,(recE y.ecnt y.eerr n).2.1,y.sseq,y.ssize,y.sblocks,y.which,y.seq⟩ ⟨x.file,x.page,soilG x.pg x.writing,x.tenant,x.holds,x.reading,0⟩)∧wx.heap[w4.heap.size]?=some (.cells ((R7_ gf nf cf gr nr cr (.slice P3 n3 r3) (.slice P4 n4 r4) gl nl cl gk nk ck (.slice P7 n7 r7))) 30 (0,0))∧wx.heap[w.heap.size+1]?=some (oCZ)∧Below w.heap.size w wx)
   case first=>
    refine wp_region_sk (S:=TS S1 gf gr gl gk) 77 18 (inL [0,1,2,3,4,5,6,7,8,9,10,11,12,13,14,16,17]) (fun wx=>CpL wx S1 W3.heap.size gf nf cf gr nr cr (.slice P3 n3 r3) (.slice P4 n4 r4) gl nl cl gk nk ck (.slice P7 n7 r7) (putC C i j ⟨y.dev,y.slot,y.c,y.size,y.blocks,(recE y.ecnt y.eerr n).1,(recE y.ecnt y.eerr n).2.1,y.sseq,y.ssize,y.sblocks,y.which,y.seq⟩ ⟨x.file,x.page,soilG x.pg x.writing,x.tenant,x.holds,x.reading,0⟩)∧wx.heap[w4.heap.size]?=some (.cells ((R7_ gf nf cf gr nr cr (.slice P3 n3 r3) (.slice P4 n4 r4) gl nl cl gk nk ck (.slice P7 n7 r7))) 30 (0,0))∧wx.heap[w.heap.size+1]?=some (oCZ)∧Below w.heap.size w wx) [SK.eq (.pointer (some ⟨w4.heap.size,0,none⟩)),SK.eq (.slice (some ⟨gf,0,none⟩) nf cf),SK.eq (.pointer (some ⟨w1.heap.size,0,none⟩)),SK.eq (.int .i64 (j:Int)),SK.eq (.pointer (some ⟨w4.heap.size,0,none⟩)),SK.eq (.slice (some ⟨gf,0,none⟩) nf cf),SK.eq (.pointer (some ⟨w1.heap.size,0,none⟩)),SK.eq (.int .i64 (j:Int)),SK.eq (.pointer (some ⟨gf,j*15,none⟩)),SK.eq (.pointer (some ⟨gf,j*15+8,none⟩)),SK.eq (.agg #[.int .i64 y.ecnt,.int .i64 y.eerr]),SK.eq (.int .i64 n),SK.eq (.tuple #[erV (recE y.ecnt y.eerr n).1 (recE y.ecnt y.eerr n).2.1,.int .i64 (recE y.ecnt y.eerr n).2.2]),SK.eq (.tuple #[erV (recE y.ecnt y.eerr n).1 (recE y.ecnt y.eerr n).2.1,.int .i64 (recE y.ecnt y.eerr n).2.2]),SK.eq (erV (recE y.ecnt y.eerr n).1 (recE y.ecnt y.eerr n).2.1),SK.eq (.int .i64 (recE y.ecnt y.eerr n).2.2),SK.eq (.pointer (some ⟨gf,j*15,none⟩)),SK.eq (.pointer (some ⟨gf,j*15+8,none⟩)),SK.any] (by kernel_rfl) (by kernel_rfl) rfl (fun _=>trivial) ?_;refine rP rfl rfl (fun xw hC hd K hK=>?_) (fun v0=>?_)
    ·go_simp;exact hK _ _ hC K_ rfl
    simp only [ly];refine rP rfl rfl (fun xw hC hd K hK=>?_) (fun v1=>?_)
    ·obtain rfl:v0=_:=hd 0 (by kernel_rfl);have hC':Below W5.heap.size W5 xw:=hC;have u0:=(hC'.cell (p:=⟨w4.heap.size,_,none⟩) hlo).trans x0;go_simp;exact hK _ _ hC K_ rfl
    simp only [ly];refine rP rfl rfl (fun xw hC hd K hK=>?_) (fun v2=>?_)
    ·go_simp;exact hK _ _ hC K_ rfl
    simp only [ly];refine rP rfl rfl (fun xw hC hd K hK=>?_) (fun v3=>?_)
    ·obtain rfl:v2=_:=hd 2 (by kernel_rfl);have hC':Below W5.heap.size W5 xw:=hC;have u0:=(hC'.cell (p:=⟨w1.heap.size,_,none⟩) hlf).trans f0;go_simp;exact hK _ _ hC K_ rfl
    simp only [ly];refine rP rfl rfl (fun xw hC hd K hK=>?_) (fun v4=>?_)
    ·go_simp;exact hK _ _ hC K_ rfl
    simp only [ly];refine rP rfl rfl (fun xw hC hd K hK=>?_) (fun v5=>?_)
    ·obtain rfl:v4=_:=hd 4 (by kernel_rfl);have hC':Below W5.heap.size W5 xw:=hC;have u0:=(hC'.cell (p:=⟨w4.heap.size,_,none⟩) hlo).trans x0;go_simp;exact hK _ _ hC K_ rfl
    simp only [ly];refine rP rfl rfl (fun xw hC hd K hK=>?_) (fun v6=>?_)
    ·go_simp;exact hK _ _ hC K_ rfl
    simp only [ly];refine rP rfl rfl (fun xw hC hd K hK=>?_) (fun v7=>?_)
    ·obtain rfl:v6=_:=hd 6 (by kernel_rfl);have hC':Below W5.heap.size W5 xw:=hC;have u0:=(hC'.cell (p:=⟨w1.heap.size,_,none⟩) hlf).trans f0;go_simp;exact hK _ _ hC K_ rfl
    simp only [ly];refine rP rfl rfl (fun xw hC hd K hK=>?_) (fun v8=>?_)
    ·obtain rfl:v5=_:=hd 5 (by kernel_rfl);obtain rfl:v7=_:=hd 7 (by kernel_rfl);go_simp;exact hK _ _ hC K_ rfl
    simp only [ly];refine rP rfl rfl (fun xw hC hd K hK=>?_) (fun v9=>?_)
    ·obtain rfl:v8=_:=hd 8 (by kernel_rfl);go_simp;exact hK _ _ hC K_ rfl
    simp only [ly];refine rP rfl rfl (fun xw hC hd K hK=>?_) (fun v10=>?_)
    ·obtain rfl:v9=_:=hd 9 (by kernel_rfl);have hC':Below W5.heap.size W5 xw:=hC;have u0:=(hC'.cell (p:=⟨gf,_,none⟩) hlg).trans z8;have u1:=(hC'.cell (p:=⟨gf,_,none⟩) hlg).trans z9;go_simp;exact hK _ _ hC K_ rfl
    simp only [ly];refine rP rfl rfl (fun xw hC hd K hK=>?_) (fun v11=>?_)
    ·go_simp;exact hK _ _ hC K_ rfl
    simp only [ly];refine rP rfl rfl (fun xw hC hd K hK=>?_) (fun v12=>?_)
    ·obtain rfl:v10=_:=hd 10 (by kernel_rfl);obtain rfl:v11=_:=hd 11 (by kernel_rfl);have hC':Below W5.heap.size W5 xw:=hC;go_simp
     go_at_call 93
     refine (hrec xw).mono ?_;rintro e w1 ⟨rfl,hb⟩;exact hK _ _ (bl_step hC' hb) (KeepS.of_below hb) rfl
    simp only [ly];refine rP rfl rfl (fun xw hC hd K hK=>?_) (fun v13=>?_)
    ·obtain e:=hd 12 (by kernel_rfl);obtain rfl:v12=_:=e;go_simp;exact hK _ _ hC K_ rfl
    simp only [ly];refine rP rfl rfl (fun xw hC hd K hK=>?_) (fun v14=>?_)
    ·obtain e:=hd 13 (by kernel_rfl);obtain rfl:v13=_:=e;go_simp;exact hK _ _ hC K_ rfl
    simp only [ly];refine rA rfl (fun w=>KeepS.refl w) (fun xw hd K hK=>?_) (fun v15=>?_)
    ·obtain e:=hd 13 (by kernel_rfl);obtain rfl:v13=_:=e;go_simp;exact hK _ rfl
    simp only [ly];refine rP rfl rfl (fun xw hC hd K hK=>?_) (fun v16=>?_)
    ·obtain rfl:v1=_:=hd 1 (by kernel_rfl);obtain rfl:v3=_:=hd 3 (by kernel_rfl);go_simp;exact hK _ _ hC K_ rfl
    simp only [ly];refine rP rfl rfl (fun xw hC hd K hK=>?_) (fun v17=>?_)
    ·obtain rfl:v16=_:=hd 16 (by kernel_rfl);go_simp;exact hK _ _ hC K_ rfl
    simp only [ly];refine rS (fun xw hC hd K hK=>?_) (fun v18=>?_)
    ·obtain rfl:v17=_:=hd 17 (by kernel_rfl);obtain e:=hd 14 (by kernel_rfl);obtain rfl:v14=_:=e;have hC':Below W5.heap.size W5 xw:=hC;have HC6:=HC5.out.step hC';have hth:=LW.there HC6.files (i:=j) (by simp [putC,markFs];omega) (p:=8) (n:=2) (by omega);have hne:gf≠w.heap.size+1∧gf≠w4.heap.size∧w.heap.size≤gf:=by have:=HC6.o1;have:=HC6.o2;have:=HC6.o3;have:=HC6.o4;omega
     refine wp_of_list (ops:=#[]) rfl (wpList_store_mid rfl 74 (.tmp 75) (.tmp 72) rfl gf (j*15+8) #[.int .i64 (recE y.ecnt y.eerr n).1,.int .i64 (recE y.ecnt y.eerr n).2.1] rfl rfl hth er_size (er_one _ _) ?_);have hfin:=HC6.putFiles (gb_setCells xw gf (j*15+8) [.int .i64 (recE y.ecnt y.eerr n).1,.int .i64 (recE y.ecnt y.eerr n).2.1]) (HC6.files.errs (List.getElem?_set_self hjl) _ _) (by simp [putC,markFs]);refine hK undef _ ⟨by rw [←putC_errs C i j y (⟨x.file,x.page,soilG x.pg x.writing,x.tenant,x.holds,x.reading,0⟩)];exact hfin,?_,?_,?_⟩ (KeepS.of_setCells _ _ _ _ (fun h=>h.2.1 rfl)) trivial
     ·exact (heap_setCells gf _ (j*15+8) xw w4.heap.size hne.2.1.symm).trans (bk_step HO5.out hC')
     ·exact (heap_setCells gf _ (j*15+8) xw (w.heap.size+1) hne.1.symm).trans (bk_step HR5.out hC')
     ·exact bl_setCells (bl_step HW5.out hC') hne.2.2 _ _
    simp only [ly];refine relWalkA_nil ?_;intro wz hD hG;clear hG;go_wp2;go_meet
    case rel=>exact hD
   case rest=>
    clear x0 x1 x2 x3 x4 x5 x6 f0 f1 f2 f3 f4 f5 f6 f7 f8 z6 z7 z8 z9 hlo hlf hlg HO5 HF5 HR5 HW5 HC5 HR4 HF4 HX4 HW4;obtain ⟨hC6,hO6,hR6,hW6⟩:=hcut;have HC6:=H_ hC6;have HR6:=H_ hR6;have HW6:=H_ hW6;clear hC6 hR6 hW6;obtain ⟨x0,x1,x2,x3,x4,x5,x6⟩:=cs7 hO6
    go_wp2_with (refine st_ck rfl (.tmp 6) (.tmp 76) rfl rfl (w.heap.size+1) rfl rfl HR6.out rfl ?_)
    show bodyPost Tryz.prog Tryz.f49 _ _ _ _
    refine bodyPost_ret (ck2_res rfl _ _ (w.heap.size+1) _ _ _ _ _ _ _ _ _ _ rfl rfl (setRow_heap _ _ _ _ _ _ HR6.out)) rfl ?_;refine ⟨_,_,_,_,_,_,_,_,_,?_,rfl,((HC6.out.setRow (w.heap.size+1) (R7_ gf nf cf gr nr cr (.slice P3 n3 r3) (.slice P4 n4 r4) gl nl cl gk nk ck (.slice P7 n7 r7)) (fun hz=>(s1 _ hz).2.2 rfl) (by omega)).weak (by omega) (fun z hz=>(s1 z hz).1) hS).at_,bl_setRow HW6.out (by omega) _⟩;exact .inr ⟨⟨x.file,x.page,soilG x.pg x.writing,x.tenant,x.holds,x.reading,0⟩,⟨y.dev,y.slot,y.c,y.size,y.blocks,(recE y.ecnt y.eerr n).1,(recE y.ecnt y.eerr n).2.1,y.sseq,y.ssize,y.sblocks,y.which,y.seq⟩,⟨HU.out.ok.page,HU.out.ok.tenant,soilG_ok HU.out.ok.pg HU.out.ok.writing,HU.out.ok.holds,HU.out.ok.reading,⟨by show (0:Int)≤0;omega,by show (0:Int)≤3;omega⟩⟩,rfl,rfl,rfl,rfl,rfl,rfl,recE_ok HER.out HE.out,rfl⟩
end
end Go.Proofs.YthhekebemmckcaaGreatDoor
