/-
  Lemmas and contracts for the laws of synchronisations (layer 43), part 32; several texts joined by a program.
-/
import Derived.Test.YthhekebemmckcaaGreatDoorJ01
import Derived.Test.YthhekebemmckcaaGreatDoorJ16
import Derived.Test.YthhekebemmckcaaGreatDoorJ31
namespace Go.Proofs.YthhekebemmckcaaGreatDoor
set_option linter.unusedVariables false
set_option linter.unusedSimpArgs false
set_option maxRecDepth 100000
set_option maxHeartbeats 16000000
open Go.RowKit
section
variable {F G Z:Nat}
theorem enter_w (C:Ck) (pr pa j p sz:Nat) (y:Fl) (wr0:Bool) (a b c d e f g:Value) (S:Nat→Prop) (w:World) (h:CkAt w S a b c d e f g C) (hI:Inv F G Z C) (hj:C.files[j]?=some y) (hsz:y.size=sz) (hpr:pr<8) (hpa:pa<64) (hp8:p<8) (hS:∀z,w.heap.size≤z→S z) :
  Calls Tryz.prog 57 #[ckV a b c d e f g,.int .i64 pr,.int .i64 pa,.int .i64 j,.int .i64 p,.bool wr0] w (RetCkE (fun C'=>Inv F G Z C') S w):=by
 obtain ⟨S1,s1,s2,s3⟩:=s1set hS;replace h:=h.weak s3;clear s3;have hjl':=(g_l hj);have hhf:=fun w' (hb:Below w.heap.size w w')=>hasFile_w C j a b c d e f g S1 w' (h.step hb) hjl';have hfd:=fun w' (hb:Below w.heap.size w w')=>find_w40 C j y p a b c d e f g S1 w' (h.step hb) hj;have hl:=hI.ok;have HI:=H_ hI;obtain ⟨A1,cf0,rfl,q1,q2⟩:=h.files.form;obtain ⟨A2,m2,c2,rfl⟩:=h.frames.cap;obtain ⟨A3,m3,c3,A4,m4,c4,A5,m5,c5,A6,m6,c6,A7,m7,c7,rfl,rfl,rfl,rfl,rfl⟩:=CkAt.caps5 h;obtain ⟨bf,of,kt,KB,kc,rfl,hbf,k1,k2,k3,k4,hcf⟩:=FlA.cells h.files hj;have hjl:=(g_l hj);have hl1:C.files.length≤100:=hl.files.2;have j2:(j:Int)<(C.files.length:Int):=by omega
 have j0:(0:Int)≤(j:Int):=by omega
 have H:=H_ h;have HL:=H_ hl;have HJ:=H_ hj;clear h hl hj k1 k2 k3 k4;have z6w:w.cell? ⟨bf,of+j*15+6,none⟩=some (.int .i64 (sz:Int)):=by rw [←hsz];exact hcf 6 _ rfl
 have HZW:=H_ z6w;clear hI hsz hcf z6w;have i1:(0:Int)≤(pr:Int):=by omega
 have i2':(pr:Int)<8:=by omega
 have i3:(0:Int)≤(pa:Int):=by omega
 have i4:(pa:Int)<64:=by omega
 have i5:(0:Int)≤(p:Int):=by omega
 have i6:(p:Int)<8:=by omega
 go_enter Tryz.func57,Tryz.ntmps57
 go_upto_region 1 with fail
 generalize hW9:(w.alloc _).alloc _=W;obtain ⟨HX,HR,HW,HZ⟩:=two_box hW9;clear hW9 HZ;obtain ⟨x0,x1,x2,x3,x4,x5,x6⟩:=cs7 HX.out
 go_upto_region 3 with (go_at_call 39;go_loud (refine CM (hhf _ HW.out) ?_);rintro e w1 ⟨rfl,hb1⟩;have HX1:=bkh HX hb1;have HR1:=bkh HR hb1;have HW1:=blh HW hb1;clear hb1)
 clear hhf x0 x1 x2 x3 x4 x5 x6 HX HR HW;obtain ⟨x0,x1,x2,x3,x4,x5,x6⟩:=cs7 HX1.out;have z6:w1.cell? ⟨bf,of+j*15+6,none⟩=some (.int .i64 (sz:Int)):=(cell_kept (HW1.out.block _ hbf)).trans HZW.out
 by_cases h16:(sz:Int)≤(p:Int)*16
 ·have d1:decide ((sz:Int)≤(p:Int)*16)=true:=decide_eq_true h16;clear h16
  go_wp2_with (refine st_ck rfl (.tmp 12) (.tmp 58) rfl rfl (w.heap.size+1) rfl rfl HR1.out rfl ?_)
  show bodyPost Tryz.prog Tryz.f57 _ _ _ _
  refine bodyPost_ret (ck2_res rfl _ _ (w.heap.size+1) _ _ _ _ _ _ _ _ _ _ rfl rfl (setRow_heap _ _ _ _ _ _ HR1.out)) rfl ?_;exact ⟨C,_,_,_,_,_,_,_,_,HI.out,rfl,(H.out.step (bl_setRow HW1.out (by omega) _)).weak (fun z _ hz=>(s1 z hz).1),bl_setRow HW1.out (by omega) _⟩
 ·have d1:decide ((sz:Int)≤(p:Int)*16)=false:=decide_eq_false h16;clear h16
  by_cases hv:getR y.c p≤0
  ·have hfq:∀w',Below w.heap.size w w'→Calls Tryz.prog 23 #[ckV (.slice (some ⟨bf,of,none⟩) C.files.length cf0) (.slice A2 m2 c2) (.slice A3 m3 c3) (.slice A4 m4 c4) (.slice A5 m5 c5) (.slice A6 m6 c6) (.slice A7 m7 c7),.int .i64 j,.int .i64 p] w' (fun e w''=>e = .returned (.tuple #[.int .i64 0,.bool false])∧Below w'.heap.size w' w''):=fun w' hb=>by
    have:=hfd w' hb;unfold RetFd fdV at this;rw [if_pos hv] at this;exact this
   clear hfd hv
   go_wp2_with (first | (go_at_call 23;go_loud (refine CM (hfq _ HW1.out) ?_);rintro e w2 ⟨rfl,hb2⟩;have HX2:=bkh HX1 hb2;have HR2:=bkh HR1 hb2;have HW2:=blh HW1 hb2;clear hb2 x0 x1 x2 x3 x4 x5 x6;obtain ⟨x0,x1,x2,x3,x4,x5,x6⟩:=cs7 HX2.out) | (refine st_ck rfl (.tmp 12) (.tmp 68) rfl rfl (w.heap.size+1) rfl rfl HR2.out rfl ?_))
   show bodyPost Tryz.prog Tryz.f57 _ _ _ _
   refine bodyPost_ret (ck2_res rfl _ _ (w.heap.size+1) _ _ _ _ _ _ _ _ _ _ rfl rfl (setRow_heap _ _ _ _ _ _ HR2.out)) rfl ?_;exact ⟨C,_,_,_,_,_,_,_,_,HI.out,rfl,(H.out.step (bl_setRow HW2.out (by omega) _)).weak (fun z _ hz=>(s1 z hz).1),bl_setRow HW2.out (by omega) _⟩
  ·obtain ⟨i,x,hgi,hU,hxp⟩:=HI.out.findOk HJ.out p (by omega);have hfq:∀w',Below w.heap.size w w'→Calls Tryz.prog 23 #[ckV (.slice (some ⟨bf,of,none⟩) C.files.length cf0) (.slice A2 m2 c2) (.slice A3 m3 c3) (.slice A4 m4 c4) (.slice A5 m5 c5) (.slice A6 m6 c6) (.slice A7 m7 c7),.int .i64 j,.int .i64 p] w' (fun e w''=>e = .returned (.tuple #[.int .i64 ((i:Int)+1),.bool true])∧Below w'.heap.size w' w''):=fun w' hb=>by
    have:=hfd w' hb;unfold RetFd fdV at this;rw [if_neg hv,hgi] at this;exact this
   have HU:=H_ hU;obtain ⟨A2',cr0,ea,q3,q4⟩:=H.out.frames.form;injection ea with ea1 ea2 ea3
   subst ea1 ea2 ea3;obtain ⟨bb,o,rfl,hbl,y0,y1,y2,y3,y4,y5,y6,y7,y8⟩:=FrA.cells H.out.frames hU.fr;have hil:=(g_l hU.fr);have i2:(i:Int)<(C.frames.length:Int):=by omega
   have hl2:C.frames.length≤100:=HL.out.frames.2;have hi64:i<64:=by have:=HI.out.nr;omega
   clear hfd hv hgi hU hxp
   go_upto_region 8 with (go_at_call 23;go_loud (refine CM (hfq _ HW1.out) ?_);rintro e w2 ⟨rfl,hb2⟩;have HX2:=bkh HX1 hb2;have HR2:=bkh HR1 hb2;have HW2:=blh HW1 hb2;clear hb2 x0 x1 x2 x3 x4 x5 x6;obtain ⟨x0,x1,x2,x3,x4,x5,x6⟩:=cs7 HX2.out)
   replace y0:=(cell_kept (HW2.out.block _ hbl)).trans y0;replace y1:=(cell_kept (HW2.out.block _ hbl)).trans y1;replace y2:=(cell_kept (HW2.out.block _ hbl)).trans y2;replace y3:=(cell_kept (HW2.out.block _ hbl)).trans y3;replace y4:=(cell_kept (HW2.out.block _ hbl)).trans y4;replace y5:=(cell_kept (HW2.out.block _ hbl)).trans y5;replace y6:=(cell_kept (HW2.out.block _ hbl)).trans y6;replace y7:=(cell_kept (HW2.out.block _ hbl)).trans y7;replace y8:=(cell_kept (HW2.out.block _ hbl)).trans y8;have hz2:w.heap.size+1<w2.heap.size:=bk_lt HR2.out
   go_upto_region 9 with fail
   generalize hW9:w2.alloc _=W3;have HF3:=nah hW9;have HX3:=bah hW9 HX2;have HR3:=bah hW9 HR2;have HW3:=lah hW9 HW2;clear hW9;clear x0 x1 x2 x3 x4 x5 x6 y0 y1 y2 y3 y4 y5 y6 y7 y8 hfq HX1 HR1 HW1 HX2 HR2 HW2 z6;obtain ⟨x0,x1,x2,x3,x4,x5,x6⟩:=cs7 HX3.out;obtain ⟨f0,f1,f2,f3,f4,f5,f6,f7,f8⟩:=cs9 HF3.out;have hz3:w.heap.size+1<W3.heap.size:=bk_lt HR3.out;have hz3':w2.heap.size<W3.heap.size:=bk_lt HF3.out;have hrt:rightP ⟨(pr:Int),(pa:Int),(i:Int)+1,wr0,true⟩:=⟨by omega,by omega,by omega,by omega,by show 1≤(i:Int)+1;omega,by show (i:Int)+1≤64;omega⟩;have HRT:=H_ hrt;have hpe:=fun w' (hb:Below w.heap.size w w') (hz:w2.heap.size<w'.heap.size)=>penter_w C.ptes ⟨(pr:Int),(pa:Int),(i:Int)+1,wr0,true⟩ _ (fun z=>S1 z∧z≠w2.heap.size) w' ((H.out.ptes.weak (fun z hz h=>⟨h,by omega⟩)).step hb) HI.out.pok hrt (fun z hz'=>⟨s2 z (by omega),by omega⟩);clear hrt
   by_cases hv3:x.pg.valid=3
   ·have d2:(x.pg.valid != 3)=false:=by rw [hv3];rfl
    clear hv3
    cases wr0 with
    | true=>
     by_cases hw0:x.writing=0
     ·have d3:(x.writing != 0)=false:=by rw [hw0];rfl
      clear hw0;have hsl:=fun w'=>soil_w x.pg.data x.pg.valid x.pg.dirty 3 w' HU.out.ok.pg ⟨by omega,by omega⟩
      go_upto_region 16 with (first
       | (go_at_call 100;go_loud (refine CM (hpe _ HW3.out hz3') ?_);rintro e w4 ⟨pv,rfl,hpv,hb4⟩;obtain ⟨P8,n8,r8,rfl⟩:=hpv.cap;have HF4:=bkh HF3 hb4;have HX4:=bkh HX3 hb4;have HR4:=bkh HR3 hb4;have HW4:=blh HW3 hb4;have HLP4:=H_ hpv;clear hpv hb4 x0 x1 x2 x3 x4 x5 x6 f0 f1 f2 f3 f4 f5 f6 f7 f8;obtain ⟨f0,f1,f2,f3,f4,f5,f6,f7,f8⟩:=cs9 HF4.out)
       | (go_at_call 92;go_loud (refine CM (hsl _) ?_);rintro e w5 ⟨rfl,hb5⟩;have HF5:=bkh HF4 hb5;have HX5:=bkh HX4 hb5;have HR5:=bkh HR4 hb5;have HW5:=blh HW4 hb5;have HLP5:=H_ (HLP4.out.step hb5);clear hb5;have hth:=there_pg HF5.out)
       | (refine wpList_store_mid rfl 53 (.tmp 110) (.tmp 108) rfl w2.heap.size 2 #[.string (soilG x.pg 3).data,.int .i64 (soilG x.pg 3).valid,.int .i64 (soilG x.pg 3).dirty] rfl rfl hth pg_size (pg_one _ _ _) ?_)
       | fail)
      have HF6:=H_ (fr_setPg (u:= .string (soilG x.pg 3).data) (v:= .int .i64 (soilG x.pg 3).valid) (z:= .int .i64 (soilG x.pg 3).dirty) HF5.out);have HX6:=H_ ((heap_setCells w2.heap.size [.string (soilG x.pg 3).data,.int .i64 (soilG x.pg 3).valid,.int .i64 (soilG x.pg 3).dirty] 2 w5 w.heap.size (by omega)).trans HX5.out);have HR6:=H_ ((heap_setCells w2.heap.size [.string (soilG x.pg 3).data,.int .i64 (soilG x.pg 3).valid,.int .i64 (soilG x.pg 3).dirty] 2 w5 (w.heap.size+1) (by omega)).trans HR5.out);have HW6:=H_ (bl_setCells HW5.out (by omega:w.heap.size≤w2.heap.size) 2 [.string (soilG x.pg 3).data,.int .i64 (soilG x.pg 3).valid,.int .i64 (soilG x.pg 3).dirty]);have HLP6:=H_ (HLP5.out.kept (KeepS.of_setCells w5 w2.heap.size 2 [.string (soilG x.pg 3).data,.int .i64 (soilG x.pg 3).valid,.int .i64 (soilG x.pg 3).dirty] (fun h=>h.2 rfl)));generalize w5.setCells w2.heap.size 2 _=W6 at HF6 HX6 HR6 HW6 HLP6;have hz4:w.heap.size+1<W6.heap.size:=bk_lt HR6.out;clear hth f0 f1 f2 f3 f4 f5 f6 f7 f8;obtain ⟨f0,f1,f2,f3,f4,f5,f6,f7,f8⟩:=cs9 HF6.out;obtain ⟨x0,x1,x2,x3,x4,x5,x6⟩:=cs7 HX6.out;obtain ⟨t,ht⟩:∃t:Nat,x.tenant=t:=⟨x.tenant.toNat,by have:=HU.out.ok.tenant;omega⟩;have htl:t<C.lists.length:=by have:=HI.out.ten i x HU.out.fr;have:=HI.out.nl;omega
      obtain ⟨l,hlt'⟩:∃l,C.lists[t]?=some l:=⟨_,List.getElem?_eq_getElem htl⟩;have hxk:FrOk ⟨x.file,x.page,soilG x.pg 3,x.tenant,x.holds,x.reading,x.writing⟩:=⟨HU.out.ok.page,HU.out.ok.tenant,soilG_ok HU.out.ok.pg ⟨by omega,by omega⟩,HU.out.ok.holds,HU.out.ok.reading,HU.out.ok.writing⟩;have HIP:=H_ (HI.out.put HU.out hxk rfl rfl rfl rfl (HI.out.file j y HJ.out) C.ptes HI.out.pok);have HIQ:=H_ (Inv.acc (i:=i) (HI.out.put HU.out hxk rfl rfl rfl rfl (HI.out.file j y HJ.out) _ (HI.out.pok.enter HRT.out)) hlt');have HT:=H_ ht;have HLT:=H_ hlt';have hput:=put_w40 C i j ⟨x.file,x.page,soilG x.pg 3,x.tenant,x.holds,x.reading,x.writing⟩ y _ _ _ _ _ _ _ S1 _ (H.out.step HW6.out) HI.out.ok hil HU.out.fl HU.out.ix (fun z hz=>s2 z (by omega));clear ht hlt' hxk
      go_upto_region 17 with (first
       | (go_at_call 90;go_loud (with_reducible refine CM hput ?_);rintro e w7 ⟨gf,nf,cf,gr,nr,cr,c',d',gl,nl,cl,gk,nk,ck,g',rfl,hc7,hb7⟩;have HC7:=H_ hc7;have hz7:=hb7.size;have HB7:=H_ hb7;clear hc7 hb7)
       | (go_at_call 101;go_loud (refine CM (access_w (putC C i j y ⟨x.file,x.page,soilG x.pg 3,x.tenant,x.holds,x.reading,x.writing⟩) i t ⟨x.file,x.page,soilG x.pg 3,x.tenant,x.holds,x.reading,x.writing⟩ l _ _ _ _ _ _ _ S1 w7 HC7.out.at_ HIP.out.ok (get_self HU.out.fr) HT.out HLT.out (HI.out.lok t l HLT.out) hi64 (fun z hz=>s2 z (by omega))) ?_);rintro e w8 ⟨gf,nf,cf,gr,nr,cr,c',d',gl,nl,cl,gk,nk,ck,g',rfl,hc8,hb8⟩;obtain ⟨P3,n3,r3,rfl⟩:=hc8.zones.cap;obtain ⟨P4,n4,r4,rfl⟩:=hc8.groups.cap;obtain ⟨P7,n7,r7,rfl⟩:=hc8.ptes.cap)
       | fail)
      obtain ⟨X,hXe⟩:∃X,X=w8.heap.size:=⟨_,rfl⟩;obtain ⟨S2,hS2⟩:∃S2:Nat→Prop,S2=fun z=>S1 z∧z≠X:=⟨_,rfl⟩;have s3:∀z,S2 z→S1 z∧z≠X:=fun z hz=>by rw [hS2] at hz;exact hz
      have hXz:w.heap.size+1<X:=by have:=hb8.size;omega
      have HK9:=H_ ((hc8.at_.weak (S':=S2) (fun z hz h=>by rw [hS2];exact ⟨h,by omega⟩)).step (bl_alloc (Below.refl w8.heap.size w8) (.cells #[.slice (some ⟨gf,0,none⟩) nf cf,.slice (some ⟨gr,0,none⟩) nr cr,.slice P3 n3 r3,.slice P4 n4 r4,.slice (some ⟨gl,0,none⟩) nl cl,.slice (some ⟨gk,0,none⟩) nk ck,.slice P7 n7 r7] 30)));have HL9:=H_ ((((HLP6.out.step HB7.out).step hb8).weak (S':=S2) (fun z hz h=>by rw [hS2];exact ⟨h.1,by omega⟩)).step (bl_alloc (Below.refl w8.heap.size w8) (.cells #[.slice (some ⟨gf,0,none⟩) nf cf,.slice (some ⟨gr,0,none⟩) nr cr,.slice P3 n3 r3,.slice P4 n4 r4,.slice (some ⟨gl,0,none⟩) nl cl,.slice (some ⟨gk,0,none⟩) nk ck,.slice P7 n7 r7] 30)));have HO9:=H_ (heap_at_new w8 (.cells #[.slice (some ⟨gf,0,none⟩) nf cf,.slice (some ⟨gr,0,none⟩) nr cr,.slice P3 n3 r3,.slice P4 n4 r4,.slice (some ⟨gl,0,none⟩) nl cl,.slice (some ⟨gk,0,none⟩) nk ck,.slice P7 n7 r7] 30) X hXe.symm);have HR9:=H_ (bk_alloc (bk_step (bk_step HR6.out HB7.out) hb8) (.cells #[.slice (some ⟨gf,0,none⟩) nf cf,.slice (some ⟨gr,0,none⟩) nr cr,.slice P3 n3 r3,.slice P4 n4 r4,.slice (some ⟨gl,0,none⟩) nl cl,.slice (some ⟨gk,0,none⟩) nk ck,.slice P7 n7 r7] 30));have HW9:=H_ (bl_alloc (bl_step (bl_step HW6.out HB7.out) hb8) (.cells #[.slice (some ⟨gf,0,none⟩) nf cf,.slice (some ⟨gr,0,none⟩) nr cr,.slice P3 n3 r3,.slice P4 n4 r4,.slice (some ⟨gl,0,none⟩) nl cl,.slice (some ⟨gk,0,none⟩) nk ck,.slice P7 n7 r7] 30));rw [←hXe];generalize w8.alloc (.cells #[.slice (some ⟨gf,0,none⟩) nf cf,.slice (some ⟨gr,0,none⟩) nr cr,.slice P3 n3 r3,.slice P4 n4 r4,.slice (some ⟨gl,0,none⟩) nl cl,.slice (some ⟨gk,0,none⟩) nk ck,.slice P7 n7 r7] 30)=W9 at HK9 HL9 HO9 HR9 HW9;clear hc8 hb8 hXe hS2 x0 x1 x2 x3 x4 x5 x6 f0 f1 f2 f3 f4 f5 f6 f7 f8;have o6:=cells_at HO9.out 6;have o6f:=free_at HO9.out 6
      go_upto_region 18 with fail
      have HO10:=H_ (show (W9.setCell ⟨X,6,none⟩ (.slice P8 n8 r8)).heap[X]?=some (.cells #[.slice (some ⟨gf,0,none⟩) nf cf,.slice (some ⟨gr,0,none⟩) nr cr,.slice P3 n3 r3,.slice P4 n4 r4,.slice (some ⟨gl,0,none⟩) nl cl,.slice (some ⟨gk,0,none⟩) nk ck,.slice P8 n8 r8] 30 (0,0)) from set_same HO9.out _);have HR10:=H_ ((Below.heap_setCell W9 ⟨X,6,none⟩ (.slice P8 n8 r8) (w.heap.size+1) (by show w.heap.size+1≠X;omega)).trans HR9.out);have HW10:=H_ (bl_set HW9.out ⟨X,6,none⟩ (.slice P8 n8 r8) (by show w.heap.size≤X;omega));have HK10:=H_ ((show CkAt W9 S2 _ _ _ _ _ _ (.slice P8 n8 r8) {accC (putC C i j y ⟨x.file,x.page,soilG x.pg 3,x.tenant,x.holds,x.reading,x.writing⟩) t l i with ptes:=enterP C.ptes ⟨(pr:Int),(pa:Int),(i:Int)+1,true,true⟩} from ⟨HK9.out.files,HK9.out.frames,HK9.out.zones,HK9.out.groups,HK9.out.lists,HK9.out.clocks,HL9.out⟩).kept (KeepS.of_setCell W9 ⟨X,6,none⟩ (.slice P8 n8 r8) (fun hz=>(s3 _ hz).2 rfl)))
      generalize W9.setCell ⟨X,6,none⟩ (.slice P8 n8 r8)=W10 at HO10 HR10 HW10 HK10;clear o6 o6f;obtain ⟨x0,x1,x2,x3,x4,x5,x6⟩:=cs7 HO10.out
      go_wp2_with (refine st_ck rfl (.tmp 12) (.tmp 119) rfl rfl (w.heap.size+1) rfl rfl HR10.out rfl ?_)
      show bodyPost Tryz.prog Tryz.f57 _ _ _ _
      refine bodyPost_ret (ck2_res rfl _ _ (w.heap.size+1) _ _ _ _ _ _ _ _ _ _ rfl rfl (setRow_heap _ _ _ _ _ _ HR10.out)) rfl ?_;exact ⟨_,_,_,_,_,_,_,_,_,HIQ.out,rfl,(HK10.out.kept (KeepS.of_setRow _ _ _ (fun hz=>(s1 _ (s3 _ hz).1).2.2 rfl))).weak (fun z _ hz=>(s1 z (s3 z hz).1).1),bl_setRow HW10.out (by omega) _⟩
     ·have d3:(x.writing != 0)=true:=bne_iff_ne.2 hw0;clear hw0
      go_wp2_with (refine st_ck rfl (.tmp 12) (.tmp 87) rfl rfl (w.heap.size+1) rfl rfl HR3.out rfl ?_)
      show bodyPost Tryz.prog Tryz.f57 _ _ _ _
      refine bodyPost_ret (ck2_res rfl _ _ (w.heap.size+1) _ _ _ _ _ _ _ _ _ _ rfl rfl (setRow_heap _ _ _ _ _ _ HR3.out)) rfl ?_;exact ⟨C,_,_,_,_,_,_,_,_,HI.out,rfl,(H.out.step (bl_setRow HW3.out (by omega) _)).weak (fun z _ hz=>(s1 z hz).1),bl_setRow HW3.out (by omega) _⟩
    | false=>
     go_upto_region 16 with (first
      | (go_at_call 100;go_loud (refine CM (hpe _ HW3.out hz3') ?_);rintro e w4 ⟨pv,rfl,hpv,hb4⟩;obtain ⟨P8,n8,r8,rfl⟩:=hpv.cap;have HF4:=bkh HF3 hb4;have HX4:=bkh HX3 hb4;have HR4:=bkh HR3 hb4;have HW4:=blh HW3 hb4;have HLP4:=H_ hpv;have hz4:=hb4.size;clear hpv hb4 x0 x1 x2 x3 x4 x5 x6 f0 f1 f2 f3 f4 f5 f6 f7 f8;obtain ⟨f0,f1,f2,f3,f4,f5,f6,f7,f8⟩:=cs9 HF4.out)
      | fail)
     obtain ⟨x0,x1,x2,x3,x4,x5,x6⟩:=cs7 HX4.out;obtain ⟨t,ht⟩:∃t:Nat,x.tenant=t:=⟨x.tenant.toNat,by have:=HU.out.ok.tenant;omega⟩;have htl:t<C.lists.length:=by have:=HI.out.ten i x HU.out.fr;have:=HI.out.nl;omega
     obtain ⟨l,hlt'⟩:∃l,C.lists[t]?=some l:=⟨_,List.getElem?_eq_getElem htl⟩;have hxk:FrOk ⟨x.file,x.page,x.pg,x.tenant,x.holds,x.reading,x.writing⟩:=⟨HU.out.ok.page,HU.out.ok.tenant,HU.out.ok.pg,HU.out.ok.holds,HU.out.ok.reading,HU.out.ok.writing⟩;have HIP:=H_ (HI.out.put HU.out hxk rfl rfl rfl rfl (HI.out.file j y HJ.out) C.ptes HI.out.pok);have HIQ:=H_ (Inv.acc (i:=i) (HI.out.put HU.out hxk rfl rfl rfl rfl (HI.out.file j y HJ.out) _ (HI.out.pok.enter HRT.out)) hlt');have HT:=H_ ht;have HLT:=H_ hlt';have hput:=put_w40 C i j ⟨x.file,x.page,x.pg,x.tenant,x.holds,x.reading,x.writing⟩ y _ _ _ _ _ _ _ S1 _ (H.out.step HW4.out) HI.out.ok hil HU.out.fl HU.out.ix (fun z hz=>s2 z (by omega));clear ht hlt' hxk
     go_upto_region 17 with (first
      | (go_at_call 90;go_loud (with_reducible refine CM hput ?_);rintro e w7 ⟨gf,nf,cf,gr,nr,cr,c',d',gl,nl,cl,gk,nk,ck,g',rfl,hc7,hb7⟩;have HC7:=H_ hc7;have hz7:=hb7.size;have HB7:=H_ hb7;clear hc7 hb7)
      | (go_at_call 101;go_loud (refine CM (access_w (putC C i j y ⟨x.file,x.page,x.pg,x.tenant,x.holds,x.reading,x.writing⟩) i t ⟨x.file,x.page,x.pg,x.tenant,x.holds,x.reading,x.writing⟩ l _ _ _ _ _ _ _ S1 w7 HC7.out.at_ HIP.out.ok (get_self HU.out.fr) HT.out HLT.out (HI.out.lok t l HLT.out) hi64 (fun z hz=>s2 z (by omega))) ?_);rintro e w8 ⟨gf,nf,cf,gr,nr,cr,c',d',gl,nl,cl,gk,nk,ck,g',rfl,hc8,hb8⟩;obtain ⟨P3,n3,r3,rfl⟩:=hc8.zones.cap;obtain ⟨P4,n4,r4,rfl⟩:=hc8.groups.cap;obtain ⟨P7,n7,r7,rfl⟩:=hc8.ptes.cap)
      | fail)
     obtain ⟨X,hXe⟩:∃X,X=w8.heap.size:=⟨_,rfl⟩;obtain ⟨S2,hS2⟩:∃S2:Nat→Prop,S2=fun z=>S1 z∧z≠X:=⟨_,rfl⟩;have s3:∀z,S2 z→S1 z∧z≠X:=fun z hz=>by rw [hS2] at hz;exact hz
     have hXz:w.heap.size+1<X:=by have:=hb8.size;omega
     have HK9:=H_ ((hc8.at_.weak (S':=S2) (fun z hz h=>by rw [hS2];exact ⟨h,by omega⟩)).step (bl_alloc (Below.refl w8.heap.size w8) (.cells #[.slice (some ⟨gf,0,none⟩) nf cf,.slice (some ⟨gr,0,none⟩) nr cr,.slice P3 n3 r3,.slice P4 n4 r4,.slice (some ⟨gl,0,none⟩) nl cl,.slice (some ⟨gk,0,none⟩) nk ck,.slice P7 n7 r7] 30)));have HL9:=H_ ((((HLP4.out.step HB7.out).step hb8).weak (S':=S2) (fun z hz h=>by rw [hS2];exact ⟨h.1,by omega⟩)).step (bl_alloc (Below.refl w8.heap.size w8) (.cells #[.slice (some ⟨gf,0,none⟩) nf cf,.slice (some ⟨gr,0,none⟩) nr cr,.slice P3 n3 r3,.slice P4 n4 r4,.slice (some ⟨gl,0,none⟩) nl cl,.slice (some ⟨gk,0,none⟩) nk ck,.slice P7 n7 r7] 30)));have HO9:=H_ (heap_at_new w8 (.cells #[.slice (some ⟨gf,0,none⟩) nf cf,.slice (some ⟨gr,0,none⟩) nr cr,.slice P3 n3 r3,.slice P4 n4 r4,.slice (some ⟨gl,0,none⟩) nl cl,.slice (some ⟨gk,0,none⟩) nk ck,.slice P7 n7 r7] 30) X hXe.symm);have HR9:=H_ (bk_alloc (bk_step (bk_step HR4.out HB7.out) hb8) (.cells #[.slice (some ⟨gf,0,none⟩) nf cf,.slice (some ⟨gr,0,none⟩) nr cr,.slice P3 n3 r3,.slice P4 n4 r4,.slice (some ⟨gl,0,none⟩) nl cl,.slice (some ⟨gk,0,none⟩) nk ck,.slice P7 n7 r7] 30));have HW9:=H_ (bl_alloc (bl_step (bl_step HW4.out HB7.out) hb8) (.cells #[.slice (some ⟨gf,0,none⟩) nf cf,.slice (some ⟨gr,0,none⟩) nr cr,.slice P3 n3 r3,.slice P4 n4 r4,.slice (some ⟨gl,0,none⟩) nl cl,.slice (some ⟨gk,0,none⟩) nk ck,.slice P7 n7 r7] 30));rw [←hXe];generalize w8.alloc (.cells #[.slice (some ⟨gf,0,none⟩) nf cf,.slice (some ⟨gr,0,none⟩) nr cr,.slice P3 n3 r3,.slice P4 n4 r4,.slice (some ⟨gl,0,none⟩) nl cl,.slice (some ⟨gk,0,none⟩) nk ck,.slice P7 n7 r7] 30)=W9 at HK9 HL9 HO9 HR9 HW9;clear hc8 hb8 hXe hS2 x0 x1 x2 x3 x4 x5 x6 f0 f1 f2 f3 f4 f5 f6 f7 f8;have o6:=cells_at HO9.out 6;have o6f:=free_at HO9.out 6
     go_upto_region 18 with fail
     have HO10:=H_ (show (W9.setCell ⟨X,6,none⟩ (.slice P8 n8 r8)).heap[X]?=some (.cells #[.slice (some ⟨gf,0,none⟩) nf cf,.slice (some ⟨gr,0,none⟩) nr cr,.slice P3 n3 r3,.slice P4 n4 r4,.slice (some ⟨gl,0,none⟩) nl cl,.slice (some ⟨gk,0,none⟩) nk ck,.slice P8 n8 r8] 30 (0,0)) from set_same HO9.out _);have HR10:=H_ ((Below.heap_setCell W9 ⟨X,6,none⟩ (.slice P8 n8 r8) (w.heap.size+1) (by show w.heap.size+1≠X;omega)).trans HR9.out);have HW10:=H_ (bl_set HW9.out ⟨X,6,none⟩ (.slice P8 n8 r8) (by show w.heap.size≤X;omega));have HK10:=H_ ((show CkAt W9 S2 _ _ _ _ _ _ (.slice P8 n8 r8) {accC (putC C i j y ⟨x.file,x.page,x.pg,x.tenant,x.holds,x.reading,x.writing⟩) t l i with ptes:=enterP C.ptes ⟨(pr:Int),(pa:Int),(i:Int)+1,false,true⟩} from ⟨HK9.out.files,HK9.out.frames,HK9.out.zones,HK9.out.groups,HK9.out.lists,HK9.out.clocks,HL9.out⟩).kept (KeepS.of_setCell W9 ⟨X,6,none⟩ (.slice P8 n8 r8) (fun hz=>(s3 _ hz).2 rfl)))
     generalize W9.setCell ⟨X,6,none⟩ (.slice P8 n8 r8)=W10 at HO10 HR10 HW10 HK10;clear o6 o6f;obtain ⟨x0,x1,x2,x3,x4,x5,x6⟩:=cs7 HO10.out
     go_wp2_with (refine st_ck rfl (.tmp 12) (.tmp 119) rfl rfl (w.heap.size+1) rfl rfl HR10.out rfl ?_)
     show bodyPost Tryz.prog Tryz.f57 _ _ _ _
     refine bodyPost_ret (ck2_res rfl _ _ (w.heap.size+1) _ _ _ _ _ _ _ _ _ _ rfl rfl (setRow_heap _ _ _ _ _ _ HR10.out)) rfl ?_;exact ⟨_,_,_,_,_,_,_,_,_,HIQ.out,rfl,(HK10.out.kept (KeepS.of_setRow _ _ _ (fun hz=>(s1 _ (s3 _ hz).1).2.2 rfl))).weak (fun z _ hz=>(s1 z (s3 z hz).1).1),bl_setRow HW10.out (by omega) _⟩
   ·have d2:(x.pg.valid != 3)=true:=bne_iff_ne.2 hv3;clear hv3
    go_wp2_with (refine st_ck rfl (.tmp 12) (.tmp 87) rfl rfl (w.heap.size+1) rfl rfl HR3.out rfl ?_)
    show bodyPost Tryz.prog Tryz.f57 _ _ _ _
    refine bodyPost_ret (ck2_res rfl _ _ (w.heap.size+1) _ _ _ _ _ _ _ _ _ _ rfl rfl (setRow_heap _ _ _ _ _ _ HR3.out)) rfl ?_;exact ⟨C,_,_,_,_,_,_,_,_,HI.out,rfl,(H.out.step (bl_setRow HW3.out (by omega) _)).weak (fun z _ hz=>(s1 z hz).1),bl_setRow HW3.out (by omega) _⟩
end
end Go.Proofs.YthhekebemmckcaaGreatDoor
