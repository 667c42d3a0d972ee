/-
  Lemmas and contracts for the laws of synchronisations (layer 43), part 21; several texts joined by a program.
-/
import Derived.Test.YthhekebemmckcaaGreatDoorJ01
import Derived.Test.YthhekebemmckcaaGreatDoorJ02
import Derived.Test.YthhekebemmckcaaGreatDoorJ16
import Derived.Test.YthhekebemmckcaaGreatDoorJ20
namespace Go.Proofs.YthhekebemmckcaaGreatDoor
set_option linter.unusedVariables false
set_option linter.unusedSimpArgs false
set_option maxRecDepth 100000
set_option maxHeartbeats 16000000
open Go.RowKit
section
theorem fillG_ok {p:Pg} (h:PgOk p) {s:Int} (hs:0≤s∧s≤3) (t:ByteArray):PgOk (fillG p s t):=by
 obtain ⟨d,v,y⟩:=p;obtain ⟨h1,h2,h3,h4⟩:=h
 dsimp only at h1 h2 h3 h4
 refine ⟨?_,?_,h3,?_⟩
 ·show (fillK d t v s 16).toArray.size=16
  rw [List.size_toArray,fillK_len]
 ·exact or3 h2 hs
 ·show bits .andNot .i64 y (bits .or .i64 v s)=0
  obtain rfl | rfl | rfl | rfl:v=0∨v=1∨v=2∨v=3:=by omega
  all_goals (obtain rfl | rfl | rfl | rfl:y=0∨y=1∨y=2∨y=3:=by omega)
  all_goals (obtain rfl | rfl | rfl | rfl:s=0∨s=1∨s=2∨s=3:=by omega)
  all_goals first
   | decide
   | exact absurd h4 (by decide)
theorem readEnd_w (C:Ck) (i j:Nat) (x:Fr) (y:Fl) (t:ByteArray) (ok:Bool) (a b c d e f g:Value) (S:Nat→Prop) (w:World) (h:CkAt w S a b c d e f g C) (hl:CkOk C) (hu:FrU C i x j y) (ht:t.size=16) (hS:∀z,w.heap.size≤z→S z) :
  Calls Tryz.prog 51 #[ckV a b c d e f g,.int .i64 ((i:Int)+1),.string t,.bool ok] w (RetCkE (PutP C i j x y) S w):=by
 obtain ⟨S1,s1,s2,s3⟩:=s1set hS;replace h:=h.weak s3;clear s3;have hus:=fun w' (hb:Below w.heap.size w w')=>used_w C i x a b c d e f g S1 w' (h.step hb) hu.fr hl.frames.2;rw [hu.used] at hus;obtain ⟨A1,cf0,rfl,q1,q2⟩:=h.files.form;obtain ⟨A2,cr0,rfl,q3,q4⟩:=h.frames.form;obtain ⟨A3,m3,c3,A4,m4,c4,A5,m5,c5,A6,m6,c6,A7,m7,c7,rfl,rfl,rfl,rfl,rfl⟩:=CkAt.caps5 h;obtain ⟨bb,o,rfl,hbl,y0,y1,y2,y3,y4,y5,y6,y7,y8⟩:=FrA.cells h.frames hu.fr;obtain ⟨bf,of,kt,KB,kc,rfl,hbf,k1,k2,k3,k4,hcf⟩:=FlA.cells h.files hu.fl;have hil:=(g_l hu.fr);have hjl:=(g_l hu.fl);have i2:(i:Int)<(C.frames.length:Int):=by omega
 have hl2:C.frames.length≤100:=hl.frames.2;have hl1:C.files.length≤100:=hl.files.2;have j2:(j:Int)<(C.files.length:Int):=by omega
 have H:=H_ h;have HL:=H_ hl;have HU:=H_ hu;clear h hl hu k1 k2 k3 k4;go_enter Tryz.func51,Tryz.ntmps51
 go_upto_region 1 with fail
 generalize hW9:(w.alloc _).alloc _=W;obtain ⟨HX,HR,HW,HZ⟩:=two_box hW9;clear hW9;have HW0:=HW.out;obtain ⟨x0,x1,x2,x3,x4,x5,x6⟩:=cs7 HX.out
 go_upto_region 3 with (go_at_call 86;(with_reducible refine CM (hus _ (by assumption)) ?_);rintro e w1 ⟨rfl,hb1⟩;have HX1:=bkh HX hb1;have HR1:=bkh HR hb1;have HW1:=blh HW hb1;have HZ1:=hb1.size;clear hb1)
 clear x0 x1 x2 x3 x4 x5 x6 HW0;obtain ⟨x0,x1,x2,x3,x4,x5,x6⟩:=cs7 HX1.out;replace y0:=(cell_kept (HW1.out.block _ hbl)).trans y0;replace y1:=(cell_kept (HW1.out.block _ hbl)).trans y1;replace y2:=(cell_kept (HW1.out.block _ hbl)).trans y2;replace y3:=(cell_kept (HW1.out.block _ hbl)).trans y3;replace y4:=(cell_kept (HW1.out.block _ hbl)).trans y4;replace y5:=(cell_kept (HW1.out.block _ hbl)).trans y5;replace y6:=(cell_kept (HW1.out.block _ hbl)).trans y6;replace y7:=(cell_kept (HW1.out.block _ hbl)).trans y7;replace y8:=(cell_kept (HW1.out.block _ hbl)).trans y8
 go_upto_region 4 with fail
 generalize hW9:w1.alloc _=W2;have HF:=nah hW9;have HX2:=bah hW9 HX1;have HR2:=bah hW9 HR1;have HW2:=lah hW9 HW1;clear hW9;clear x0 x1 x2 x3 x4 x5 x6 y0 y1 y2 y3 y4 y5 y6 y7 y8;obtain ⟨x0,x1,x2,x3,x4,x5,x6⟩:=cs7 HX2.out;obtain ⟨f0,f1,f2,f3,f4,f5,f6,f7,f8⟩:=cs9 HF.out;have HFZ:w.heap.size≤w1.heap.size∧w.heap.size+1<w1.heap.size:=⟨by omega,by omega⟩
 by_cases hw0:x.reading=0
 ·have d3:(x.reading == 0)=true:=by simp [hw0]
  clear hw0
  go_wp2_with (refine st_ck rfl (.tmp 8) (.tmp 27) rfl rfl (w.heap.size+1) rfl rfl HR2.out rfl ?_)
  show bodyPost Tryz.prog Tryz.f51 _ _ _ _
  refine bodyPost_ret (ck2_res rfl _ _ (w.heap.size+1) _ _ _ _ _ _ _ _ _ _ rfl rfl (setRow_heap _ _ _ _ _ _ HR2.out)) rfl ?_;exact ⟨C,_,_,_,_,_,_,_,_,.inl rfl,rfl,(H.out.step (bl_setRow HW2.out (by omega) _)).weak (fun z _ hz=>(s1 z hz).1),bl_setRow HW2.out (by omega) _⟩
 ·have d3:(x.reading == 0)=false:=by simp [hw0]
  clear hw0;have hfz:=free_at HF.out 7
  cases ok with
  | false=>
   go_upto_region 17 with fail
   have HF3:=H_ (show (W2.setCell ⟨w1.heap.size,7,none⟩ (.int .i64 0)).heap[w1.heap.size]?=some (.cells #[.int .i64 x.file,.int .i64 x.page,.string x.pg.data,.int .i64 x.pg.valid,.int .i64 x.pg.dirty,.int .i64 x.tenant,.int .i64 x.holds,.int .i64 0,.int .i64 x.writing] 55 (0,0)) from set_same HF.out _);have HX3:=H_ ((Below.heap_setCell W2 ⟨w1.heap.size,7,none⟩ (.int .i64 0) w.heap.size (by show w.heap.size≠w1.heap.size;omega)).trans HX2.out);have HR3:=H_ ((Below.heap_setCell W2 ⟨w1.heap.size,7,none⟩ (.int .i64 0) (w.heap.size+1) (by show w.heap.size+1≠w1.heap.size;omega)).trans HR2.out);have HW3:=H_ (bl_set HW2.out ⟨w1.heap.size,7,none⟩ (.int .i64 0) (by show w.heap.size≤w1.heap.size;omega));generalize W2.setCell ⟨w1.heap.size,7,none⟩ (.int .i64 0)=W3 at HF3 HX3 HR3 HW3;clear x0 x1 x2 x3 x4 x5 x6 f0 f1 f2 f3 f4 f5 f6 f7 f8;clear hfz d3;obtain ⟨x0,x1,x2,x3,x4,x5,x6⟩:=cs7 HX3.out;obtain ⟨f0,f1,f2,f3,f4,f5,f6,f7,f8⟩:=cs9 HF3.out;have HZ3:w.heap.size+1<W3.heap.size:=bk_lt HR3.out
   go_wp2_with (first
    | (go_at_call 90;go_loud (with_reducible refine CM (put_w40 C i j (⟨x.file,x.page,x.pg,x.tenant,x.holds,0,x.writing⟩) y _ _ _ _ _ _ _ S1 _ (H.out.step HW3.out) HL.out hil HU.out.fl HU.out.ix (fun z hz=>s2 z (by omega))) ?_);rintro e w4 ⟨gf,nf,cf,gr,nr,cr,c',d',gl,nl,cl,gk,nk,ck,g',rfl,hc4,hb4⟩;obtain ⟨P3,n3,r3,rfl⟩:=hc4.zones.cap;obtain ⟨P4,n4,r4,rfl⟩:=hc4.groups.cap;obtain ⟨P7,n7,r7,rfl⟩:=hc4.ptes.cap;have HR4:=bkh HR3 hb4;have HF4:=bkh HF3 hb4;have HX4:=bkh HX3 hb4;have HW4:=blh HW3 hb4;have HC4:=H_ hc4;have HB4:=H_ hb4;clear hc4 hb4)
    | (refine st_ck rfl (.tmp 8) (.tmp 72) rfl rfl (w.heap.size+1) rfl rfl HR4.out rfl ?_))
   show bodyPost Tryz.prog Tryz.f51 _ _ _ _
   refine bodyPost_ret (ck2_res rfl _ _ (w.heap.size+1) _ _ _ _ _ _ _ _ _ _ rfl rfl (setRow_heap _ _ _ _ _ _ HR4.out)) rfl ?_;refine ⟨putC C i j y (⟨x.file,x.page,x.pg,x.tenant,x.holds,0,x.writing⟩),_,_,_,_,_,_,_,_,?_,rfl,((HC4.out.setRow (w.heap.size+1) (R7_ gf nf cf gr nr cr (.slice P3 n3 r3) (.slice P4 n4 r4) gl nl cl gk nk ck (.slice P7 n7 r7)) (fun hz=>(s1 _ hz).2.2 rfl) (by omega)).weak (by omega) (fun z hz=>(s1 z hz).1) hS).at_,bl_setRow HW4.out (by omega) _⟩;exact .inr ⟨⟨x.file,x.page,x.pg,x.tenant,x.holds,0,x.writing⟩,⟨HU.out.ok.page,HU.out.ok.tenant,HU.out.ok.pg,HU.out.ok.holds,⟨by show (0:Int)≤0;omega,by show (0:Int)≤3;omega⟩,HU.out.ok.writing⟩,rfl,rfl,rfl,rfl⟩
  | true=>
   have HT:=H_ ht;have d4:((t.size:Int) != 16)=false:=by simp;omega
   have hcv:=fun w=>Lib.run_convert_string_bytes (P:=Tryz.prog) w 9 141 5 t Tryz.underlying9 Tryz.underlying141 Tryz.underlying5;clear ht hfz
   go_upto_region 10 with fail
   have HV:=H_ (bytes_lw W2 t);have hbv:=bytes_below W2 5 t;have HX5:=bkh HX2 hbv;have HR5:=bkh HR2 hbv;have HF5:=bkh HF hbv;have HW5:=blh HW2 hbv;have hB:=HW2.out.size;have hB2:=bk_lt HR2.out;have hB3:=bk_lt HF.out;have dn1:t.size≤16:=by have:=HT.out;omega
   have dn2:16≤t.size:=by have:=HT.out;omega
   clear hbv hcv x0 x1 x2 x3 x4 x5 x6 f0 f1 f2 f3 f4 f5 f6 f7 f8;generalize Lib.bytesWorld W2 5 t=V at HV HX5 HR5 HF5 HW5;generalize grownCap W2 t.size 0 5=cp;obtain ⟨B,hBB⟩:∃B,B=W2.heap.size:=⟨_,rfl⟩;rw [←hBB] at HV hB hB2 hB3 ⊢;clear hBB;obtain ⟨p,hp⟩:∃p:Nat,x.page=p:=⟨x.page.toNat,by have:=HU.out.ok.page;omega⟩;have hp8:p<8:=by have:=HU.out.ok.page;omega
   have HP:=H_ hp;clear hp d3 d4;go_wp2
   go_loopw [12] (fun s wx=>∃(k:Nat) (L:List UInt8),s = .int .i64 k∧k≤16∧L.length=16∧LW U8R wx (fun _=>False) B L∧Below w.heap.size w wx∧wx.heap[w.heap.size]?=some (.cells #[.slice (some ⟨bf,of,none⟩) C.files.length cf0,.slice (some ⟨bb,o,none⟩) C.frames.length cr0,.slice A3 m3 c3,.slice A4 m4 c4,.slice A5 m5 c5,.slice A6 m6 c6,.slice A7 m7 c7] 30 (0,0))∧wx.heap[w.heap.size+1]?=some (oCZ)∧wx.heap[w1.heap.size]?=some (oF x)) (fun s _=>16 - (intOf s).toNat)
   case atStart=>exact ⟨0,_,rfl,by omega,by simp [HT.out],HV.out,HW5.out,HX5.out,HR5.out,HF5.out⟩
   case round=>
    clear HV HW5 HX5 HR5 HF5;obtain ⟨k,L,rfl,hk,hL,hw,hb,hX,hR,hF⟩:=hrel;have HV:=H_ hw;have HW:=H_ hb;have HX:=H_ hX;have HR:=H_ hR;have HF:=H_ hF;have HLL:=H_ hL;obtain ⟨x0,x1,x2,x3,x4,x5,x6⟩:=cs7 hX;obtain ⟨f0,f1,f2,f3,f4,f5,f6,f7,f8⟩:=cs9 hF;rw [HU.out.ix] at f0;rw [HP.out] at f1;have z6:wr.cell? ⟨bf,of+j*15+6,none⟩=some (.int .i64 y.size):=(cell_kept (HW.out.block _ hbf)).trans (hcf 6 _ rfl);clear hX hR hF
    by_cases hlt:k<16
    ·have hkd:k<t.size:=by omega
     have fz:=(hw.slot (i:=k) (p:=0) (by omega) (by omega)).2;obtain ⟨c0,hc0⟩:=(hw.slot (i:=k) (p:=0) (by omega) (by omega)).1;rw [Nat.mul_one,Nat.add_zero] at fz hc0;clear hw hb hL;have w1':IntKind.i64.wrap ((p:Int)*16)=(p:Int)*16:=IntWalk.i64_in _ (by omega);have w2':IntKind.i64.wrap ((p:Int)*16+(k:Int))=(p:Int)*16+(k:Int):=IntWalk.i64_in _ (by omega)
     by_cases hge:y.size≤(p:Int)*16+(k:Int)
     ·have g1:decide (y.size≤(p:Int)*16+(k:Int))=true:=decide_eq_true hge
      go_upto_region 13 with fail
      go_quiet (fail);go_wp2;go_roundw
      case rel=>
       have hw:=HV.out.step (below_drewN B_ nq);have hs:=hw.setOne (i:=k) (p:=0) (a:=L[k]'(by have:=HLL.out;omega)) (a':=0) (v:= .int .u8 0) (List.getElem?_eq_getElem _) (by omega) rfl (fun r hr=>by
        have hr:r=[.int .u8 _]:=hr;subst hr
        rfl)
       rw [Nat.mul_one,Nat.add_zero] at hs;have hne:B≠w.heap.size∧B≠w.heap.size+1∧B≠w1.heap.size:=by omega
       exact ⟨k+1,L.set k 0,by go_num,by omega,by simp [HLL.out],hs,bl_set (below_drewN HW.out _) ⟨B,k,none⟩ _ (by show w.heap.size≤B;omega),set_bk HX.out _ _ (by show w.heap.size≠B;omega),set_bk HR.out _ _ (by show w.heap.size+1≠B;omega),set_bk HF.out _ _ (by show w1.heap.size≠B;omega)⟩
      case measure=>simp [intOf];omega
     ·have g1:decide (y.size≤(p:Int)*16+(k:Int))=false:=decide_eq_false hge
      go_upto_region 13 with fail
      go_quiet (fail);go_wp2;go_roundw
      case rel=>exact ⟨k+1,L,by go_num,by omega,HLL.out,HV.out.step (below_drewN B_ nq),below_drewN HW.out _,HX.out,HR.out,HF.out⟩
      case measure=>simp [intOf];omega
    ·obtain rfl:k=16:=by omega
     have hcv:(convert 141 9 (.slice (some ⟨B,0,none⟩) t.size cp)).run Tryz.prog wr = .ok (.string ⟨L.toArray⟩) wr:=by
      have:=conv_bytes L B cp wr (fun j hj=>by
       obtain ⟨r,hr,hc⟩:=hw.at_ (List.getElem?_eq_getElem hj);have hr:r=[.int .u8 _]:=hr;subst hr;have:=hc 0 _ rfl;rw [Nat.mul_one,Nat.add_zero] at this;exact this)
      rw [hL] at this;rw [HT.out];exact this
     have HL16:(⟨L.toArray⟩:ByteArray).size=16:=by simpa [ByteArray.size] using hL
     have hfl:=fun w'=>fill_w x.pg.data x.pg.valid x.pg.dirty x.reading ⟨L.toArray⟩ w' HU.out.ok.pg HU.out.ok.reading HL16;clear hw hb hL z6 HL16
     go_upto_region 16 with (first
      | (go_at_call 94;go_loud (with_reducible refine CM (hfl _) ?_);rintro e w5 ⟨rfl,hb5⟩;have HF7:=bkh HF hb5;have HX7:=bkh HX hb5;have HR7:=bkh HR hb5;have HW7:=blh HW hb5;clear hb5;have hth:=there_pg HF7.out)
      | (refine wpList_store_mid rfl 53 (.tmp 67) (.tmp 65) rfl w1.heap.size 2 #[.string (fillG x.pg x.reading ⟨L.toArray⟩).data,.int .i64 (fillG x.pg x.reading ⟨L.toArray⟩).valid,.int .i64 (fillG x.pg x.reading ⟨L.toArray⟩).dirty] rfl rfl hth pg_size (pg_one _ _ _) ?_)
      | fail)
     have HF8:=H_ (fr_setPg (u:= .string (fillG x.pg x.reading ⟨L.toArray⟩).data) (v:= .int .i64 (fillG x.pg x.reading ⟨L.toArray⟩).valid) (z:= .int .i64 (fillG x.pg x.reading ⟨L.toArray⟩).dirty) HF7.out);have HX8:=H_ ((heap_setCells w1.heap.size [.string (fillG x.pg x.reading ⟨L.toArray⟩).data,.int .i64 (fillG x.pg x.reading ⟨L.toArray⟩).valid,.int .i64 (fillG x.pg x.reading ⟨L.toArray⟩).dirty] 2 w5 w.heap.size (by omega)).trans HX7.out);have HR8:=H_ ((heap_setCells w1.heap.size [.string (fillG x.pg x.reading ⟨L.toArray⟩).data,.int .i64 (fillG x.pg x.reading ⟨L.toArray⟩).valid,.int .i64 (fillG x.pg x.reading ⟨L.toArray⟩).dirty] 2 w5 (w.heap.size+1) (by omega)).trans HR7.out);have HW8:=H_ (bl_setCells HW7.out (by omega:w.heap.size≤w1.heap.size) 2 [.string (fillG x.pg x.reading ⟨L.toArray⟩).data,.int .i64 (fillG x.pg x.reading ⟨L.toArray⟩).valid,.int .i64 (fillG x.pg x.reading ⟨L.toArray⟩).dirty]);generalize w5.setCells w1.heap.size 2 _=W8 at HF8 HX8 HR8 HW8;clear x0 x1 x2 x3 x4 x5 x6 f0 f1 f2 f3 f4 f5 f6 f7 f8;clear hth;have hfz:=free_at HF8.out 7;obtain ⟨f0,f1,f2,f3,f4,f5,f6,f7,f8⟩:=cs9 HF8.out
     go_upto_region 17 with fail
     have HF3:=H_ (show (W8.setCell ⟨w1.heap.size,7,none⟩ (.int .i64 0)).heap[w1.heap.size]?=some (.cells #[.int .i64 x.file,.int .i64 x.page,.string (fillG x.pg x.reading ⟨L.toArray⟩).data,.int .i64 (fillG x.pg x.reading ⟨L.toArray⟩).valid,.int .i64 (fillG x.pg x.reading ⟨L.toArray⟩).dirty,.int .i64 x.tenant,.int .i64 x.holds,.int .i64 0,.int .i64 x.writing] 55 (0,0)) from set_same HF8.out _);have HX3:=H_ ((Below.heap_setCell W8 ⟨w1.heap.size,7,none⟩ (.int .i64 0) w.heap.size (by show w.heap.size≠w1.heap.size;omega)).trans HX8.out);have HR3:=H_ ((Below.heap_setCell W8 ⟨w1.heap.size,7,none⟩ (.int .i64 0) (w.heap.size+1) (by show w.heap.size+1≠w1.heap.size;omega)).trans HR8.out);have HW3:=H_ (bl_set HW8.out ⟨w1.heap.size,7,none⟩ (.int .i64 0) (by show w.heap.size≤w1.heap.size;omega));generalize W8.setCell ⟨w1.heap.size,7,none⟩ (.int .i64 0)=W3 at HF3 HX3 HR3 HW3;clear f0 f1 f2 f3 f4 f5 f6 f7 f8 hfz;obtain ⟨x0,x1,x2,x3,x4,x5,x6⟩:=cs7 HX3.out;obtain ⟨f0,f1,f2,f3,f4,f5,f6,f7,f8⟩:=cs9 HF3.out;have HZ3:w.heap.size+1<W3.heap.size:=bk_lt HR3.out
     go_wp2_with (first
      | (go_at_call 90;go_loud (with_reducible refine CM (put_w40 C i j (⟨x.file,x.page,fillG x.pg x.reading ⟨L.toArray⟩,x.tenant,x.holds,0,x.writing⟩) y _ _ _ _ _ _ _ S1 _ (H.out.step HW3.out) HL.out hil HU.out.fl HU.out.ix (fun z hz=>s2 z (by omega))) ?_);rintro e w4 ⟨gf,nf,cf,gr,nr,cr,c',d',gl,nl,cl,gk,nk,ck,g',rfl,hc4,hb4⟩;obtain ⟨P3,n3,r3,rfl⟩:=hc4.zones.cap;obtain ⟨P4,n4,r4,rfl⟩:=hc4.groups.cap;obtain ⟨P7,n7,r7,rfl⟩:=hc4.ptes.cap;have HR4:=bkh HR3 hb4;have HF4:=bkh HF3 hb4;have HX4:=bkh HX3 hb4;have HW4:=blh HW3 hb4;have HC4:=H_ hc4;have HB4:=H_ hb4;clear hc4 hb4)
      | (refine st_ck rfl (.tmp 8) (.tmp 72) rfl rfl (w.heap.size+1) rfl rfl HR4.out rfl ?_))
     show bodyPost Tryz.prog Tryz.f51 _ _ _ _
     refine bodyPost_ret (ck2_res rfl _ _ (w.heap.size+1) _ _ _ _ _ _ _ _ _ _ rfl rfl (setRow_heap _ _ _ _ _ _ HR4.out)) rfl ?_;refine ⟨putC C i j y (⟨x.file,x.page,fillG x.pg x.reading ⟨L.toArray⟩,x.tenant,x.holds,0,x.writing⟩),_,_,_,_,_,_,_,_,?_,rfl,((HC4.out.setRow (w.heap.size+1) (R7_ gf nf cf gr nr cr (.slice P3 n3 r3) (.slice P4 n4 r4) gl nl cl gk nk ck (.slice P7 n7 r7)) (fun hz=>(s1 _ hz).2.2 rfl) (by omega)).weak (by omega) (fun z hz=>(s1 z hz).1) hS).at_,bl_setRow HW4.out (by omega) _⟩;exact .inr ⟨⟨x.file,x.page,fillG x.pg x.reading ⟨L.toArray⟩,x.tenant,x.holds,0,x.writing⟩,⟨HU.out.ok.page,HU.out.ok.tenant,fillG_ok HU.out.ok.pg HU.out.ok.reading _,HU.out.ok.holds,⟨by show (0:Int)≤0;omega,by show (0:Int)≤3;omega⟩,HU.out.ok.writing⟩,rfl,rfl,rfl,rfl⟩
end
section
def spanI (s:Int):Int × Int:=if s=1 then (0,1) else if s=2 then (1,1) else (0,2)
theorem span_w (s:Int) (w:World):Calls Tryz.prog 88 #[.int .i64 s] w (RetQ (.tuple #[.int .i64 (spanI s).1,.int .i64 (spanI s).2]) w):=by
 by_cases h1:s=1
 ·subst h1;go_enter Tryz.func88,Tryz.ntmps88;go_wp2
  go_ret2
  exact ⟨rfl,rfl⟩
 ·by_cases h2:s=2
  ·subst h2;go_enter Tryz.func88,Tryz.ntmps88;go_wp2
   go_ret2
   exact ⟨rfl,rfl⟩
  ·have HQ:=H_ (show spanI s=(0,2) by unfold spanI;rw [if_neg h1,if_neg h2]);have e1:(s == 1)=false:=beq_eq_false_iff_ne.2 h1;have e2:(s == 2)=false:=beq_eq_false_iff_ne.2 h2;clear h1 h2;go_enter Tryz.func88,Tryz.ntmps88;go_wp2
   go_ret2
   exact ⟨by rw [HQ.out];rfl,rfl⟩
theorem slot_w (s:Nat) (hs:s<7) (w:World):Calls Tryz.prog 160 #[.int .i64 s] w (RetQ (.bool true) w):=by
 have h0:(0:Int)≤(s:Int):=by omega
 have h1:(s:Int)<7:=by omega
 go_enter Tryz.func160,Tryz.ntmps160
 go_wp2_with (go_at_call 82;refine (slots_w _).mono ?_;rintro e w1 ⟨rfl,rfl⟩)
 go_ret;exact ⟨rfl,rfl⟩
theorem pageSector_w (s p:Nat) (hs:s<7) (hp:p<8) (w:World):Calls Tryz.prog 129 #[.int .i64 s,.int .i64 p] w (RetQ (.int .i64 ((s:Int)*18+2+(p:Int)*2)) w):=by
 have h0:(0:Int)≤(p:Int):=by omega
 have h1:(p:Int)<8:=by omega
 have h2:(0:Int)≤(s:Int):=by omega
 have h3:(s:Int)<7:=by omega
 go_enter Tryz.func129,Tryz.ntmps129
 go_wp2_with (go_at_call 160;refine (slot_w s hs _).mono ?_;rintro e w1 ⟨rfl,rfl⟩)
 go_ret;exact ⟨rfl,rfl⟩
theorem rq_size:(Tryz.prog.info? 97).map (·.size)=some 10:=by kernel_rfl
theorem rq_one (a0 a1 a2 a3 a4 a5:Int) (d:ByteArray) (b c:Bool) (t:Int):(#[.int .i64 a0,.int .i64 a1,.int .i64 a2,.int .i64 a3,.int .i64 a4,.int .i64 a5,.string d,.bool b,.bool c,.int .i64 t]:Array Value).all (·.oneCell')=true:=by simp [Value.oneCell']
theorem rq_res {fn:Func} {p:Tmp} (h:fn.results=#[.cell p 97]) (tmps:Array Value) (w:World) (g:Nat) (t:TypeId) (x0 x1 x2 x3 x4 x5 x6 x7 x8 x9:Value) (fr:Nat × Nat)
  (hp:tmps.getD p undef = .pointer (some ⟨g,0,none⟩)) (hg:w.heap[g]?=some (.cells #[x0,x1,x2,x3,x4,x5,x6,x7,x8,x9] t fr)):(results fn tmps).run Tryz.prog w = .ok (.agg #[x0,x1,x2,x3,x4,x5,x6,x7,x8,x9]) w:=
 results_cell_row h tmps w g t _ fr _ hp hg Tryz.underlying97 rfl rq_size
def RetRq (x:Fr) (y:Fl) (s p:Nat) (n:Int) (w:World) (en:Ending) (w':World):Prop:=en = .returned (.agg #[.int .i64 0,.int .i64 x.tenant,.int .i64 y.dev,.int .i64 0,.int .i64 ((s:Int)*18+2+(p:Int)*2+(spanI n).1),.int .i64 (spanI n).2,.string ⟨#[]⟩,.bool false,.bool false,.int .i64 0])∧Below w.heap.size w w'
theorem request_w (C:Ck) (i j:Nat) (x:Fr) (y:Fl) (s p:Nat) (n:Int) (a b c d e f g:Value) (S:Nat→Prop) (w:World) (h:CkAt w S a b c d e f g C) (hl:CkOk C) (hu:FrU C i x j y) (hs:y.slot=s) (hs7:s<7) (hp:x.page=p) (hS:∀z,w.heap.size≤z→S z) :
  Calls Tryz.prog 87 #[ckV a b c d e f g,.int .i64 ((i:Int)+1),.int .i64 n] w (RetRq x y s p n w):=by
 have hp8:p<8:=by have:=hu.ok.page;omega
 obtain ⟨S1,s1,s2,s3⟩:=s1set hS;replace h:=h.weak s3;clear s3;have hus:=fun w' (hb:Below w.heap.size w w')=>used_w C i x a b c d e f g S1 w' (h.step hb) hu.fr hl.frames.2;rw [hu.used] at hus;obtain ⟨A1,cf0,rfl,q1,q2⟩:=h.files.form;obtain ⟨A2,cr0,rfl,q3,q4⟩:=h.frames.form;obtain ⟨A3,m3,c3,A4,m4,c4,A5,m5,c5,A6,m6,c6,A7,m7,c7,rfl,rfl,rfl,rfl,rfl⟩:=CkAt.caps5 h;obtain ⟨bb,o,rfl,hbl,y0,y1,y2,y3,y4,y5,y6,y7,y8⟩:=FrA.cells h.frames hu.fr;obtain ⟨bf,of,kt,KB,kc,rfl,hbf,k1,k2,k3,k4,hcf⟩:=FlA.cells h.files hu.fl;have hil:=(g_l hu.fr);have hjl:=(g_l hu.fl);have i2:(i:Int)<(C.frames.length:Int):=by omega
 have hl2:C.frames.length≤100:=hl.frames.2;have hl1:C.files.length≤100:=hl.files.2;have j2:(j:Int)<(C.files.length:Int):=by omega
 have H:=H_ h;have HL:=H_ hl;have HU:=H_ hu;clear h hl hu k1 k2 k3 k4;have HP:=H_ hp;have HS:=H_ hs;clear hp hs;go_enter Tryz.func87,Tryz.ntmps87
 go_upto_region 1 with fail
 generalize hW9:(w.alloc _).alloc _=W;obtain ⟨HX,HR,HW,HZ⟩:=two_box hW9;clear hW9;obtain ⟨x0,x1,x2,x3,x4,x5,x6⟩:=cs7 HX.out;replace y0:=(cell_kept (HW.out.block _ hbl)).trans y0;replace y1:=(cell_kept (HW.out.block _ hbl)).trans y1;replace y2:=(cell_kept (HW.out.block _ hbl)).trans y2;replace y3:=(cell_kept (HW.out.block _ hbl)).trans y3;replace y4:=(cell_kept (HW.out.block _ hbl)).trans y4;replace y5:=(cell_kept (HW.out.block _ hbl)).trans y5;replace y6:=(cell_kept (HW.out.block _ hbl)).trans y6;replace y7:=(cell_kept (HW.out.block _ hbl)).trans y7;replace y8:=(cell_kept (HW.out.block _ hbl)).trans y8
 go_upto_region 2 with fail
 have HF:=H_ (heap_at_new W (oF x) (w.heap.size+1+1) HZ);have HX2:=H_ (bk_alloc HX.out (oF x));have HR2:=H_ (bk_alloc HR.out (oF x));have HW2:=H_ (bl_alloc HW.out (oF x));have HZ2:(W.alloc (oF x)).heap.size=w.heap.size+1+1+1:=by simp [HZ]
 generalize W.alloc (oF x)=W2 at HF HX2 HR2 HW2 HZ2;clear x0 x1 x2 x3 x4 x5 x6 y0 y1 y2 y3 y4 y5 y6 y7 y8;obtain ⟨x0,x1,x2,x3,x4,x5,x6⟩:=cs7 HX2.out;obtain ⟨f0,f1,f2,f3,f4,f5,f6,f7,f8⟩:=cs9 HF.out;rw [HU.out.ix] at f0;have z0:W2.cell? ⟨bf,of+j*15,none⟩=some (.int .i64 y.dev):=(cell_kept (HW2.out.block _ hbf)).trans (hcf 0 _ rfl);have z1:W2.cell? ⟨bf,of+j*15+1,none⟩=some (.int .i64 y.slot):=(cell_kept (HW2.out.block _ hbf)).trans (hcf 1 _ rfl)
 go_upto_region 3 with fail
 have HL3:=H_ (heap_at_new W2 (.cells #[.int .i64 y.dev,.int .i64 y.slot] 61) (w.heap.size+1+1+1) HZ2);have HF3:=H_ (bk_alloc HF.out (.cells #[.int .i64 y.dev,.int .i64 y.slot] 61));have HR3:=H_ (bk_alloc HR2.out (.cells #[.int .i64 y.dev,.int .i64 y.slot] 61));have HW3:=H_ (bl_alloc HW2.out (.cells #[.int .i64 y.dev,.int .i64 y.slot] 61));generalize W2.alloc (.cells #[.int .i64 y.dev,.int .i64 y.slot] 61)=W3 at HL3 HF3 HR3 HW3;clear x0 x1 x2 x3 x4 x5 x6 f0 f1 f2 f3 f4 f5 f6 f7 f8 z0 z1;obtain ⟨f0,f1,f2,f3,f4,f5,f6,f7,f8⟩:=cs9 HF3.out;obtain ⟨l0,l1⟩:=cs2 HL3.out;rw [HP.out] at f1;rw [HS.out] at l1;have hlf:=bk_lt HF3.out;have hll:=bk_lt HL3.out
 go_upto_region 4 with (go_at_call 88;refine (span_w n _).mono ?_;rintro e w9 ⟨rfl,rfl⟩)
 have hsp:0≤(spanI n).1∧(spanI n).1≤1:=by
  unfold spanI
  split
  ·exact ⟨by show (0:Int)≤0;omega,by show (0:Int)≤1;omega⟩
  split
  ·exact ⟨by show (0:Int)≤1;omega,by show (1:Int)≤1;omega⟩
  exact ⟨by show (0:Int)≤0;omega,by show (0:Int)≤1;omega⟩
 obtain ⟨sp1,sp2⟩:=hsp
 go_cut [] (fun wx=>wx.heap[w.heap.size+1]?=some (.cells #[.int .i64 0,.int .i64 x.tenant,.int .i64 y.dev,.int .i64 0,.int .i64 ((s:Int)*18+2+(p:Int)*2+(spanI n).1),.int .i64 (spanI n).2,.string ⟨#[]⟩,.bool false,.bool false,.int .i64 0] 97 (0,0))∧Below w.heap.size w wx)
 case first=>
  refine wp_region_sk (S:=fun _=>False) 42 13 (fun i=>decide (i≤12)) (fun wx=>wx.heap[w.heap.size+1]?=some (.cells #[.int .i64 0,.int .i64 x.tenant,.int .i64 y.dev,.int .i64 0,.int .i64 ((s:Int)*18+2+(p:Int)*2+(spanI n).1),.int .i64 (spanI n).2,.string ⟨#[]⟩,.bool false,.bool false,.int .i64 0] 97 (0,0))∧Below w.heap.size w wx) [SK.eq (.pointer (some ⟨w.heap.size+1+1+1,0,none⟩)),SK.eq (.int .i64 y.dev),SK.eq (.pointer (some ⟨w.heap.size+1+1,5,none⟩)),SK.eq (.int .i64 x.tenant),SK.eq (.pointer (some ⟨w.heap.size+1+1+1,1,none⟩)),SK.eq (.int .i64 (s:Int)),SK.eq (.pointer (some ⟨w.heap.size+1+1,1,none⟩)),SK.eq (.int .i64 (p:Int)),SK.eq (.int .i64 ((s:Int)*18+2+(p:Int)*2)),SK.eq (.int .i64 (spanI n).1),SK.eq (.int .i64 ((s:Int)*18+2+(p:Int)*2+(spanI n).1)),SK.eq (.int .i64 (spanI n).2),SK.eq (.agg #[.int .i64 0,.int .i64 x.tenant,.int .i64 y.dev,.int .i64 0,.int .i64 ((s:Int)*18+2+(p:Int)*2+(spanI n).1),.int .i64 (spanI n).2,.string ⟨#[]⟩,.bool false,.bool false,.int .i64 0]),SK.any] (by kernel_rfl) (by kernel_rfl) rfl (fun _=>trivial) ?_;refine rP rfl rfl (fun xw hC hd K hK=>?_) (fun v0=>?_)
  ·go_simp;exact hK _ _ hC K_ rfl
  simp only [ly];refine rP rfl rfl (fun xw hC hd K hK=>?_) (fun v1=>?_)
  ·obtain rfl:v0=_:=hd 0 (by kernel_rfl);have hC':Below W3.heap.size W3 xw:=hC;have u0:=(hC'.cell (p:=⟨w.heap.size+1+1+1,_,none⟩) hll).trans l0;go_simp;exact hK _ _ hC K_ rfl
  simp only [ly];refine rP rfl rfl (fun xw hC hd K hK=>?_) (fun v2=>?_)
  ·go_simp;exact hK _ _ hC K_ rfl
  simp only [ly];refine rP rfl rfl (fun xw hC hd K hK=>?_) (fun v3=>?_)
  ·obtain rfl:v2=_:=hd 2 (by kernel_rfl);have hC':Below W3.heap.size W3 xw:=hC;have u0:=(hC'.cell (p:=⟨w.heap.size+1+1,_,none⟩) hlf).trans f5;go_simp;exact hK _ _ hC K_ rfl
  simp only [ly];refine rP rfl rfl (fun xw hC hd K hK=>?_) (fun v4=>?_)
  ·go_simp;exact hK _ _ hC K_ rfl
  simp only [ly];refine rP rfl rfl (fun xw hC hd K hK=>?_) (fun v5=>?_)
  ·obtain rfl:v4=_:=hd 4 (by kernel_rfl);have hC':Below W3.heap.size W3 xw:=hC;have u0:=(hC'.cell (p:=⟨w.heap.size+1+1+1,_,none⟩) hll).trans l1;go_simp;exact hK _ _ hC K_ rfl
  simp only [ly];refine rP rfl rfl (fun xw hC hd K hK=>?_) (fun v6=>?_)
  ·go_simp;exact hK _ _ hC K_ rfl
  simp only [ly];refine rP rfl rfl (fun xw hC hd K hK=>?_) (fun v7=>?_)
  ·obtain rfl:v6=_:=hd 6 (by kernel_rfl);have hC':Below W3.heap.size W3 xw:=hC;have u0:=(hC'.cell (p:=⟨w.heap.size+1+1,_,none⟩) hlf).trans f1;go_simp;exact hK _ _ hC K_ rfl
  simp only [ly];refine rP rfl rfl (fun xw hC hd K hK=>?_) (fun v8=>?_)
  ·obtain rfl:v5=_:=hd 5 (by kernel_rfl);obtain rfl:v7=_:=hd 7 (by kernel_rfl);go_simp
   go_at_call 129
   refine (pageSector_w s p hs7 hp8 _).mono ?_;rintro e w1 ⟨rfl,rfl⟩;exact hK _ _ hC K_ rfl
  simp only [ly];refine rP rfl rfl (fun xw hC hd K hK=>?_) (fun v9=>?_)
  ·go_simp;exact hK _ _ hC K_ rfl
  simp only [ly];refine rP rfl rfl (fun xw hC hd K hK=>?_) (fun v10=>?_)
  ·obtain rfl:v8=_:=hd 8 (by kernel_rfl);obtain rfl:v9=_:=hd 9 (by kernel_rfl);go_simp;exact hK _ _ hC K_ (by first | rfl | (show Value.int _ _=Value.int _ _;simp;done) | (show Value.int _ _=Value.int _ _;simp [IntKind.wrap_i64,wrap64];done) | (show Value.int _ _=Value.int _ _;simp [IntKind.wrap_i64];omega))
  simp only [ly];refine rP rfl rfl (fun xw hC hd K hK=>?_) (fun v11=>?_)
  ·go_simp;exact hK _ _ hC K_ rfl
  simp only [ly];refine rP rfl rfl (fun xw hC hd K hK=>?_) (fun v12=>?_)
  ·obtain rfl:v1=_:=hd 1 (by kernel_rfl);obtain rfl:v3=_:=hd 3 (by kernel_rfl);obtain rfl:v10=_:=hd 10 (by kernel_rfl);obtain rfl:v11=_:=hd 11 (by kernel_rfl);go_simp;exact hK _ _ hC K_ rfl
  simp only [ly];refine rS (fun xw hC hd K hK=>?_) (fun v13=>?_)
  ·obtain rfl:v12=_:=hd 12 (by kernel_rfl);have hC':Below W3.heap.size W3 xw:=hC;have HR4:=bk_step HR3.out hC';refine wp_store_row rfl 97 (.tmp 6) (.tmp 41) rfl rfl (w.heap.size+1) #[.int .i64 0,.int .i64 x.tenant,.int .i64 y.dev,.int .i64 0,.int .i64 ((s:Int)*18+2+(p:Int)*2+(spanI n).1),.int .i64 (spanI n).2,.string ⟨#[]⟩,.bool false,.bool false,.int .i64 0] rfl rfl 97 _ HR4 rq_size rfl (rq_one _ _ _ _ _ _ _ _ _ _) ?_;exact hK undef _ ⟨setRow_heap _ _ _ _ _ _ HR4,bl_setRow (bl_step HW3.out hC') (by omega) _⟩ (KeepS.of_setRow _ _ _ (fun h=>h)) trivial
  simp only [ly];refine relWalkA_nil ?_;intro wz hD hG;clear hG;go_wp2;go_meet
  case rel=>exact hD
 case rest=>
  obtain ⟨hR5,hW5⟩:=hcut;go_wp2
  show bodyPost Tryz.prog Tryz.f87 _ _ _ _
  refine bodyPost_ret (rq_res rfl _ _ (w.heap.size+1) _ _ _ _ _ _ _ _ _ _ _ _ rfl hR5) rfl ?_;exact ⟨rfl,hW5⟩
end
end Go.Proofs.YthhekebemmckcaaGreatDoor
