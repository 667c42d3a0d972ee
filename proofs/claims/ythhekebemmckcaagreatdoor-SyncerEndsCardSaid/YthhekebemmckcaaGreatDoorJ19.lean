/-
  Lemmas and contracts for the laws of synchronisations (layer 43), part 19; several texts joined by a program.
-/
import Derived.Test.YthhekebemmckcaaGreatDoorJ01
import Derived.Test.YthhekebemmckcaaGreatDoorJ16
import Derived.Test.YthhekebemmckcaaGreatDoorJ18
namespace Go.Proofs.YthhekebemmckcaaGreatDoor
set_option linter.unusedVariables false
set_option linter.unusedSimpArgs false
set_option maxRecDepth 100000
set_option maxHeartbeats 16000000
open Go.RowKit
abbrev R7_ (gf nf cf gr nr cr : Nat) (c d : Value) (gl nl cl gk nk ck : Nat) (g : Value) : Array Value := #[.slice (some ⟨gf, 0, none⟩) nf cf, .slice (some ⟨gr, 0, none⟩) nr cr, c, d, .slice (some ⟨gl, 0, none⟩) nl cl, .slice (some ⟨gk, 0, none⟩) nk ck, g]
section
def RetCkE (P:Ck→Prop) (S:Nat→Prop) (w:World) (en:Ending) (w':World):Prop:=∃C' err a b c d e f g,P C'∧en = .returned (.tuple #[ckV a b c d e f g,.int .i64 err])∧CkAt w' S a b c d e f g C'∧Below w.heap.size w w'
theorem ck2_res {fn:Func} {p q:Tmp} (h:fn.results=#[.cell p 30,.tmp q]) (tmps:Array Value) (w:World) (g:Nat) (t:TypeId) (x0 x1 x2 x3 x4 x5 x6:Value) (fr:Nat × Nat) (u:Value)
  (hp:tmps.getD p undef = .pointer (some ⟨g,0,none⟩)) (hq:tmps.getD q undef=u) (hg:w.heap[g]?=some (.cells #[x0,x1,x2,x3,x4,x5,x6] t fr)):(results fn tmps).run Tryz.prog w = .ok (.tuple #[ckV x0 x1 x2 x3 x4 x5 x6,u]) w:=
 res2 h tmps w g t _ fr _ u hp hq hg Tryz.underlying30 rfl ck_size
structure FrOk (x:Fr):Prop where
 page:0≤x.page∧x.page<8
 tenant:0≤x.tenant∧x.tenant<2
 pg:PgOk x.pg
 holds:0≤x.holds∧x.holds≤255
 reading:0≤x.reading∧x.reading≤3
 writing:0≤x.writing∧x.writing≤3
structure FrU (C:Ck) (i:Nat) (x:Fr) (j:Nat) (y:Fl):Prop where
 fr:C.frames[i]?=some x
 fl:C.files[j]?=some y
 ix:x.file=j
 ok:FrOk x
theorem FrU.used {C:Ck} {i j:Nat} {x:Fr} {y:Fl} (h:FrU C i x j y):usedB x=true:=by
 show (x.file != -1)=true
 rw [h.ix];exact bne_iff_ne.2 (by omega)
def PutP (C:Ck) (i j:Nat) (x:Fr) (y:Fl) (C':Ck):Prop:=C'=C∨∃x',FrOk x'∧x'.file=x.file∧x'.page=x.page∧x'.tenant=x.tenant∧C'=putC C i j y x'
theorem hold_w (C:Ck) (i j:Nat) (x:Fr) (y:Fl) (n:Int) (a b c d e f g:Value) (S:Nat→Prop) (w:World) (h:CkAt w S a b c d e f g C) (hl:CkOk C) (hu:FrU C i x j y) (hn:-255≤n∧n≤255) (hS:∀z,w.heap.size≤z→S z) :
  Calls Tryz.prog 54 #[ckV a b c d e f g,.int .i64 ((i:Int)+1),.int .i64 n] w (RetCkE (PutP C i j x y) S w):=by
 obtain ⟨S1,s1,s2,s3⟩:=s1set hS;replace h:=h.weak s3;clear s3;have hus:=fun w' (hb:Below w.heap.size w w')=>used_w C i x a b c d e f g S1 w' (h.step hb) hu.fr hl.frames.2;rw [hu.used] at hus;obtain ⟨A1,cf0,rfl,q1,q2⟩:=h.files.form;obtain ⟨A2,cr0,rfl,q3,q4⟩:=h.frames.form;obtain ⟨A3,m3,c3,A4,m4,c4,A5,m5,c5,A6,m6,c6,A7,m7,c7,rfl,rfl,rfl,rfl,rfl⟩:=CkAt.caps5 h;obtain ⟨bb,o,rfl,hbl,y0,y1,y2,y3,y4,y5,y6,y7,y8⟩:=FrA.cells h.frames hu.fr;obtain ⟨bf,of,kt,KB,kc,rfl,hbf,k1,k2,k3,k4,hcf⟩:=FlA.cells h.files hu.fl;have hil:=(g_l hu.fr);have hjl:=(g_l hu.fl);have i2:(i:Int)<(C.frames.length:Int):=by omega
 have hl2:C.frames.length≤100:=hl.frames.2;have hl1:C.files.length≤100:=hl.files.2;have j2:(j:Int)<(C.files.length:Int):=by omega
 have H:=H_ h;have HL:=H_ hl;have HU:=H_ hu;clear h hl hu k1 k2 k3 k4;obtain ⟨n1,n2⟩:=hn;obtain ⟨g1,g2⟩:=HU.out.ok.holds;have d1:decide (n < -255)=false:=dF (by omega);have d2:decide (255<n)=false:=dF (by omega);go_enter Tryz.func54,Tryz.ntmps54
 go_upto_region 1 with fail
 generalize hW9:(w.alloc _).alloc _=W;obtain ⟨HX,HR,HW,HZ⟩:=two_box hW9;clear hW9;have HW0:=HW.out;obtain ⟨x0,x1,x2,x3,x4,x5,x6⟩:=cs7 HX.out
 go_upto_region 3 with (go_at_call 86;(with_reducible refine CM (hus _ (by assumption)) ?_);rintro e w1 ⟨rfl,hb1⟩;have HX1:=bkh HX hb1;have HR1:=bkh HR hb1;have HW1:=blh HW hb1;have HZ1:=hb1.size;clear hb1)
 clear x0 x1 x2 x3 x4 x5 x6 HW0;obtain ⟨x0,x1,x2,x3,x4,x5,x6⟩:=cs7 HX1.out;replace y0:=(cell_kept (HW1.out.block _ hbl)).trans y0;replace y1:=(cell_kept (HW1.out.block _ hbl)).trans y1;replace y2:=(cell_kept (HW1.out.block _ hbl)).trans y2;replace y3:=(cell_kept (HW1.out.block _ hbl)).trans y3;replace y4:=(cell_kept (HW1.out.block _ hbl)).trans y4;replace y5:=(cell_kept (HW1.out.block _ hbl)).trans y5;replace y6:=(cell_kept (HW1.out.block _ hbl)).trans y6;replace y7:=(cell_kept (HW1.out.block _ hbl)).trans y7;replace y8:=(cell_kept (HW1.out.block _ hbl)).trans y8
 go_upto_region 4 with fail
 generalize hW9:w1.alloc _=W2;have HF:=nah hW9;have HX2:=bah hW9 HX1;have HR2:=bah hW9 HR1;have HW2:=lah hW9 HW1;clear hW9;clear x0 x1 x2 x3 x4 x5 x6 y0 y1 y2 y3 y4 y5 y6 y7 y8;obtain ⟨x0,x1,x2,x3,x4,x5,x6⟩:=cs7 HX2.out;obtain ⟨f0,f1,f2,f3,f4,f5,f6,f7,f8⟩:=cs9 HF.out
 by_cases hr:x.holds+n<0∨255<x.holds+n
 ·have HRR:=H_ hr;have d3:decide (x.holds+n<0)=true∨decide (x.holds+n<0)=false∧decide (255<x.holds+n)=true:=by
   rcases hr with hr | hr
   ·exact .inl (decide_eq_true hr)
   ·by_cases h0:x.holds+n<0
    ·exact .inl (decide_eq_true h0)
    ·exact .inr ⟨decide_eq_false h0,decide_eq_true hr⟩
  clear hr
  rcases d3 with d3 | ⟨d3,d4⟩
  all_goals
   go_wp2_with (refine st_ck rfl (.tmp 6) (.tmp 40) rfl rfl (w.heap.size+1) rfl rfl HR2.out rfl ?_)
   show bodyPost Tryz.prog Tryz.f54 _ _ _ _
   refine bodyPost_ret (ck2_res rfl _ _ (w.heap.size+1) _ _ _ _ _ _ _ _ _ _ rfl rfl (setRow_heap _ _ _ _ _ _ HR2.out)) rfl ?_;exact ⟨C,_,_,_,_,_,_,_,_,.inl rfl,rfl,(H.out.step (bl_setRow HW2.out (by omega) _)).weak (fun z _ hz=>(s1 z hz).1),bl_setRow HW2.out (by omega) _⟩
 ·have d3:decide (x.holds+n<0)=false:=dF (by omega);have d4:decide (255<x.holds+n)=false:=dF (by omega);have hfz:=free_at HF.out 6
  go_upto_region 7 with fail
  have HF3:=H_ (show (W2.setCell ⟨w1.heap.size,6,none⟩ (.int .i64 (x.holds+n))).heap[w1.heap.size]?=some (.cells #[.int .i64 x.file,.int .i64 x.page,.string x.pg.data,.int .i64 x.pg.valid,.int .i64 x.pg.dirty,.int .i64 x.tenant,.int .i64 (x.holds+n),.int .i64 x.reading,.int .i64 x.writing] 55 (0,0)) from set_same HF.out _);have HX3:=H_ ((Below.heap_setCell W2 ⟨w1.heap.size,6,none⟩ (.int .i64 (x.holds+n)) w.heap.size (by show w.heap.size≠w1.heap.size;omega)).trans HX2.out);have HR3:=H_ ((Below.heap_setCell W2 ⟨w1.heap.size,6,none⟩ (.int .i64 (x.holds+n)) (w.heap.size+1) (by show w.heap.size+1≠w1.heap.size;omega)).trans HR2.out);have HW3:=H_ (bl_set HW2.out ⟨w1.heap.size,6,none⟩ (.int .i64 (x.holds+n)) (by show w.heap.size≤w1.heap.size;omega));generalize W2.setCell ⟨w1.heap.size,6,none⟩ (.int .i64 (x.holds+n))=W3 at HF3 HX3 HR3 HW3;clear x0 x1 x2 x3 x4 x5 x6 f0 f1 f2 f3 f4 f5 f6 f7 f8 hfz;obtain ⟨x0,x1,x2,x3,x4,x5,x6⟩:=cs7 HX3.out;obtain ⟨f0,f1,f2,f3,f4,f5,f6,f7,f8⟩:=cs9 HF3.out;have HZ3:w.heap.size+1<W3.heap.size:=bk_lt HR3.out
  go_wp2_with (first
   | (go_at_call 90;go_loud (with_reducible refine CM (put_w40 C i j (⟨x.file,x.page,x.pg,x.tenant,x.holds+n,x.reading,x.writing⟩) y _ _ _ _ _ _ _ S1 _ (H.out.step HW3.out) HL.out hil HU.out.fl HU.out.ix (fun z hz=>s2 z (by omega))) ?_);rintro e w4 ⟨gf,nf,cf,gr,nr,cr,c',d',gl,nl,cl,gk,nk,ck,g',rfl,hc4,hb4⟩;obtain ⟨P3,n3,r3,rfl⟩:=hc4.zones.cap;obtain ⟨P4,n4,r4,rfl⟩:=hc4.groups.cap;obtain ⟨P7,n7,r7,rfl⟩:=hc4.ptes.cap;have HR4:=bkh HR3 hb4;have HW4:=blh HW3 hb4;have HC4:=H_ hc4;clear hc4 hb4)
   | (refine st_ck rfl (.tmp 6) (.tmp 49) rfl rfl (w.heap.size+1) rfl rfl HR4.out rfl ?_))
  show bodyPost Tryz.prog Tryz.f54 _ _ _ _
  refine bodyPost_ret (ck2_res rfl _ _ (w.heap.size+1) _ _ _ _ _ _ _ _ _ _ rfl rfl (setRow_heap _ _ _ _ _ _ HR4.out)) rfl ?_;refine ⟨putC C i j y (⟨x.file,x.page,x.pg,x.tenant,x.holds+n,x.reading,x.writing⟩),_,_,_,_,_,_,_,_,?_,rfl,((HC4.out.setRow (w.heap.size+1) (R7_ gf nf cf gr nr cr (.slice P3 n3 r3) (.slice P4 n4 r4) gl nl cl gk nk ck (.slice P7 n7 r7)) (fun hz=>(s1 _ hz).2.2 rfl) (by omega)).weak (by omega) (fun z hz=>(s1 z hz).1) hS).at_,bl_setRow HW4.out (by omega) _⟩;exact .inr ⟨{x with holds:=x.holds+n},⟨HU.out.ok.page,HU.out.ok.tenant,HU.out.ok.pg,⟨by show 0≤x.holds+n;omega,by show x.holds+n≤255;omega⟩,HU.out.ok.reading,HU.out.ok.writing⟩,rfl,rfl,rfl,rfl⟩
end
section
theorem or3 {a b:Int} (ha:0≤a∧a≤3) (hb:0≤b∧b≤3):0≤bits .or .i64 a b∧bits .or .i64 a b≤3:=by
 obtain rfl | rfl | rfl | rfl:a=0∨a=1∨a=2∨a=3:=by omega
 all_goals (obtain rfl | rfl | rfl | rfl:b=0∨b=1∨b=2∨b=3:=by omega) <;> decide
theorem readBegin_w (C:Ck) (i j:Nat) (x:Fr) (y:Fl) (n:Int) (a b c d e f g:Value) (S:Nat→Prop) (w:World) (h:CkAt w S a b c d e f g C) (hl:CkOk C) (hu:FrU C i x j y) (hn:1≤n∧n≤3) (hS:∀z,w.heap.size≤z→S z) :
  Calls Tryz.prog 50 #[ckV a b c d e f g,.int .i64 ((i:Int)+1),.int .i64 n] w (RetCkE (PutP C i j x y) S w):=by
 obtain ⟨S1,s1,s2,s3⟩:=s1set hS;replace h:=h.weak s3;clear s3;have hus:=fun w' (hb:Below w.heap.size w w')=>used_w C i x a b c d e f g S1 w' (h.step hb) hu.fr hl.frames.2;rw [hu.used] at hus;obtain ⟨A1,cf0,rfl,q1,q2⟩:=h.files.form;obtain ⟨A2,cr0,rfl,q3,q4⟩:=h.frames.form;obtain ⟨A3,m3,c3,A4,m4,c4,A5,m5,c5,A6,m6,c6,A7,m7,c7,rfl,rfl,rfl,rfl,rfl⟩:=CkAt.caps5 h;obtain ⟨bb,o,rfl,hbl,y0,y1,y2,y3,y4,y5,y6,y7,y8⟩:=FrA.cells h.frames hu.fr;obtain ⟨bf,of,kt,KB,kc,rfl,hbf,k1,k2,k3,k4,hcf⟩:=FlA.cells h.files hu.fl;have hil:=(g_l hu.fr);have hjl:=(g_l hu.fl);have i2:(i:Int)<(C.frames.length:Int):=by omega
 have hl2:C.frames.length≤100:=hl.frames.2;have hl1:C.files.length≤100:=hl.files.2;have j2:(j:Int)<(C.files.length:Int):=by omega
 have H:=H_ h;have HL:=H_ hl;have HU:=H_ hu;clear h hl hu k1 k2 k3 k4;obtain ⟨n1,n2⟩:=hn;have d1:decide (n<1)=false:=dF (by omega);have d2:decide (3<n)=false:=dF (by omega);go_enter Tryz.func50,Tryz.ntmps50
 go_upto_region 1 with fail
 generalize hW9:(w.alloc _).alloc _=W;obtain ⟨HX,HR,HW,HZ⟩:=two_box hW9;clear hW9;have HW0:=HW.out;obtain ⟨x0,x1,x2,x3,x4,x5,x6⟩:=cs7 HX.out
 go_upto_region 3 with (go_at_call 86;(with_reducible refine CM (hus _ (by assumption)) ?_);rintro e w1 ⟨rfl,hb1⟩;have HX1:=bkh HX hb1;have HR1:=bkh HR hb1;have HW1:=blh HW hb1;have HZ1:=hb1.size;clear hb1)
 clear x0 x1 x2 x3 x4 x5 x6 HW0;obtain ⟨x0,x1,x2,x3,x4,x5,x6⟩:=cs7 HX1.out;replace y0:=(cell_kept (HW1.out.block _ hbl)).trans y0;replace y1:=(cell_kept (HW1.out.block _ hbl)).trans y1;replace y2:=(cell_kept (HW1.out.block _ hbl)).trans y2;replace y3:=(cell_kept (HW1.out.block _ hbl)).trans y3;replace y4:=(cell_kept (HW1.out.block _ hbl)).trans y4;replace y5:=(cell_kept (HW1.out.block _ hbl)).trans y5;replace y6:=(cell_kept (HW1.out.block _ hbl)).trans y6;replace y7:=(cell_kept (HW1.out.block _ hbl)).trans y7;replace y8:=(cell_kept (HW1.out.block _ hbl)).trans y8
 go_upto_region 4 with fail
 generalize hW9:w1.alloc _=W2;have HF:=nah hW9;have HX2:=bah hW9 HX1;have HR2:=bah hW9 HR1;have HW2:=lah hW9 HW1;clear hW9;clear x0 x1 x2 x3 x4 x5 x6 y0 y1 y2 y3 y4 y5 y6 y7 y8;obtain ⟨x0,x1,x2,x3,x4,x5,x6⟩:=cs7 HX2.out;obtain ⟨f0,f1,f2,f3,f4,f5,f6,f7,f8⟩:=cs9 HF.out;have HFZ:w.heap.size≤w1.heap.size∧w.heap.size+1<w1.heap.size:=⟨by omega,by omega⟩
 cases d3:bits .and .i64 n (bits .or .i64 x.pg.valid x.reading) != 0 with
 | true=>
  go_wp2_with (refine st_ck rfl (.tmp 6) (.tmp 37) rfl rfl (w.heap.size+1) rfl rfl HR2.out rfl ?_)
  show bodyPost Tryz.prog Tryz.f50 _ _ _ _
  refine bodyPost_ret (ck2_res rfl _ _ (w.heap.size+1) _ _ _ _ _ _ _ _ _ _ rfl rfl (setRow_heap _ _ _ _ _ _ HR2.out)) rfl ?_;exact ⟨C,_,_,_,_,_,_,_,_,.inl rfl,rfl,(H.out.step (bl_setRow HW2.out (by omega) _)).weak (fun z _ hz=>(s1 z hz).1),bl_setRow HW2.out (by omega) _⟩
 | false=>
  have hfz:=free_at HF.out 7
  go_upto_region 7 with fail
  have HF3:=H_ (show (W2.setCell ⟨w1.heap.size,7,none⟩ (.int .i64 (bits .or .i64 x.reading n))).heap[w1.heap.size]?=some (.cells #[.int .i64 x.file,.int .i64 x.page,.string x.pg.data,.int .i64 x.pg.valid,.int .i64 x.pg.dirty,.int .i64 x.tenant,.int .i64 x.holds,.int .i64 (bits .or .i64 x.reading n),.int .i64 x.writing] 55 (0,0)) from set_same HF.out _);have HX3:=H_ ((Below.heap_setCell W2 ⟨w1.heap.size,7,none⟩ (.int .i64 (bits .or .i64 x.reading n)) w.heap.size (by show w.heap.size≠w1.heap.size;omega)).trans HX2.out);have HR3:=H_ ((Below.heap_setCell W2 ⟨w1.heap.size,7,none⟩ (.int .i64 (bits .or .i64 x.reading n)) (w.heap.size+1) (by show w.heap.size+1≠w1.heap.size;omega)).trans HR2.out);have HW3:=H_ (bl_set HW2.out ⟨w1.heap.size,7,none⟩ (.int .i64 (bits .or .i64 x.reading n)) (by show w.heap.size≤w1.heap.size;omega));generalize W2.setCell ⟨w1.heap.size,7,none⟩ (.int .i64 (bits .or .i64 x.reading n))=W3 at HF3 HX3 HR3 HW3;clear x0 x1 x2 x3 x4 x5 x6 f0 f1 f2 f3 f4 f5 f6 f7 f8;clear hfz d3;obtain ⟨x0,x1,x2,x3,x4,x5,x6⟩:=cs7 HX3.out;obtain ⟨f0,f1,f2,f3,f4,f5,f6,f7,f8⟩:=cs9 HF3.out;have HZ3:w.heap.size+1<W3.heap.size:=bk_lt HR3.out
  go_wp2_with (first
   | (go_at_call 90;go_loud (with_reducible refine CM (put_w40 C i j (⟨x.file,x.page,x.pg,x.tenant,x.holds,bits .or .i64 x.reading n,x.writing⟩) y _ _ _ _ _ _ _ S1 _ (H.out.step HW3.out) HL.out hil HU.out.fl HU.out.ix (fun z hz=>s2 z (by omega))) ?_);rintro e w4 ⟨gf,nf,cf,gr,nr,cr,c',d',gl,nl,cl,gk,nk,ck,g',rfl,hc4,hb4⟩;obtain ⟨P3,n3,r3,rfl⟩:=hc4.zones.cap;obtain ⟨P4,n4,r4,rfl⟩:=hc4.groups.cap;obtain ⟨P7,n7,r7,rfl⟩:=hc4.ptes.cap;have HR4:=bkh HR3 hb4;have HF4:=bkh HF3 hb4;have HX4:=bkh HX3 hb4;have HW4:=blh HW3 hb4;have HC4:=H_ hc4;have HB4:=H_ hb4;clear hc4 hb4)
   | (refine st_ck rfl (.tmp 6) (.tmp 46) rfl rfl (w.heap.size+1) rfl rfl HR4.out rfl ?_))
  show bodyPost Tryz.prog Tryz.f50 _ _ _ _
  refine bodyPost_ret (ck2_res rfl _ _ (w.heap.size+1) _ _ _ _ _ _ _ _ _ _ rfl rfl (setRow_heap _ _ _ _ _ _ HR4.out)) rfl ?_;refine ⟨putC C i j y (⟨x.file,x.page,x.pg,x.tenant,x.holds,bits .or .i64 x.reading n,x.writing⟩),_,_,_,_,_,_,_,_,?_,rfl,((HC4.out.setRow (w.heap.size+1) (R7_ gf nf cf gr nr cr (.slice P3 n3 r3) (.slice P4 n4 r4) gl nl cl gk nk ck (.slice P7 n7 r7)) (fun hz=>(s1 _ hz).2.2 rfl) (by omega)).weak (by omega) (fun z hz=>(s1 z hz).1) hS).at_,bl_setRow HW4.out (by omega) _⟩;exact .inr ⟨⟨x.file,x.page,x.pg,x.tenant,x.holds,bits .or .i64 x.reading n,x.writing⟩,⟨HU.out.ok.page,HU.out.ok.tenant,HU.out.ok.pg,HU.out.ok.holds,or3 HU.out.ok.reading ⟨by omega,by omega⟩,HU.out.ok.writing⟩,rfl,rfl,rfl,rfl⟩
end
end Go.Proofs.YthhekebemmckcaaGreatDoor
