/-
  Lemmas and contracts for the laws of synchronisations (layer 43), part 36; several texts joined by a program.
-/
import Derived.Test.YthhekebemmckcaaGreatDoorJ01
import Derived.Test.YthhekebemmckcaaGreatDoorJ16
import Derived.Test.YthhekebemmckcaaGreatDoorJ35
namespace Go.Proofs.YthhekebemmckcaaGreatDoor
set_option linter.unusedVariables false
set_option linter.unusedSimpArgs false
set_option maxRecDepth 100000
set_option maxHeartbeats 16000000
open Go.RowKit
section
variable {F G Z:Nat}
theorem punch_w (C:Ck) (j off n sz:Nat) (y:Fl) (a b c d e f g:Value) (S:Nat→Prop) (w:World) (h:CkAt w S a b c d e f g C) (hI:Inv F G Z C) (hj:C.files[j]?=some y) (hsz:y.size=sz) (h2:off+n≤128) (hS:∀z,w.heap.size≤z→S z) :
  Calls Tryz.prog 56 #[ckV a b c d e f g,.int .i64 j,.int .i64 off,.int .i64 n] w (RetCkE (fun C'=>Inv F G Z C') S w):=by
 have hs8:sz≤128:=by obtain ⟨q,h1,h2⟩:=(hI.file j y hj).size;omega
 obtain ⟨S1,s1,s2,s3⟩:=s1set hS;replace h:=h.weak s3;clear s3;have hjl':=(g_l hj);have hhf:=fun w' (hb:Below w.heap.size w w')=>hasFile_w C j a b c d e f g S1 w' (h.step hb) hjl';have hby:=fun w'=>cbytes_w (off:Int) (n:Int) w' (by omega) (by omega) (by omega) (by omega);have hclr:=fun w' (hb:Below w.heap.size w w')=>clear_w C j off n sz y a b c d e f g S1 w' (h.step hb) hI.ok hj hsz hs8 (hI.findOk hj) h2;have hcld:=fun w' (hb:Below w.heap.size w w') (hz:w.heap.size+1<w'.heap.size) hcut=>cleared_w C j off n sz y a b c d e f g S1 w' (h.step hb) hI hj hsz hs8 h2 hcut (fun z hz'=>s2 z (by omega));have hl:=hI.ok;have HI:=H_ hI;obtain ⟨A1,cf0,rfl,q1,q2⟩:=h.files.form;obtain ⟨A2,m2,c2,rfl⟩:=h.frames.cap;obtain ⟨A3,m3,c3,A4,m4,c4,A5,m5,c5,A6,m6,c6,A7,m7,c7,rfl,rfl,rfl,rfl,rfl⟩:=CkAt.caps5 h;obtain ⟨bf,of,kt,KB,kc,rfl,hbf,k1,k2,k3,k4,hcf⟩:=FlA.cells h.files hj;have hjl:=(g_l hj);have hl1:C.files.length≤100:=hl.files.2;have j2:(j:Int)<(C.files.length:Int):=by omega
 have j0:(0:Int)≤(j:Int):=by omega
 have H:=H_ h;have HL:=H_ hl;have HJ:=H_ hj;clear h hl hj k1 k2 k3 k4;clear hI hsz hcf;go_enter Tryz.func56,Tryz.ntmps56
 go_upto_region 1 with fail
 generalize hW9:(w.alloc _).alloc _=W;obtain ⟨HX,HR,HW,HZ⟩:=two_box hW9;clear hW9 HZ;obtain ⟨x0,x1,x2,x3,x4,x5,x6⟩:=cs7 HX.out
 go_upto_region 4 with (first
  | (go_at_call 39;go_loud (refine CM (hhf _ HW.out) ?_);rintro e w1 ⟨rfl,hb1⟩;have HX1:=bkh HX hb1;have HR1:=bkh HR hb1;have HW1:=blh HW hb1;clear hb1 x0 x1 x2 x3 x4 x5 x6;obtain ⟨x0,x1,x2,x3,x4,x5,x6⟩:=cs7 HX1.out)
  | (go_at_call 76;go_loud (refine CM (hby _) ?_);rintro e w2 ⟨rfl,rfl⟩)
  | (go_at_call 98;go_loud (refine CM (hclr _ HW1.out) ?_);rintro e w3 ⟨wh,cu,may,rfl,hcl,hb3⟩;have HX3:=bkh HX1 hb3;have HR3:=bkh HR1 hb3;have HW3:=blh HW1 hb3;clear hb3)
  | fail)
 clear hhf hby hclr x0 x1 x2 x3 x4 x5 x6;obtain ⟨x0,x1,x2,x3,x4,x5,x6⟩:=cs7 HX3.out
 cases may with
 | false=>
  go_wp2_with (refine st_ck rfl (.tmp 8) (.tmp 35) rfl rfl (w.heap.size+1) rfl rfl HR3.out rfl ?_)
  show bodyPost Tryz.prog Tryz.f56 _ _ _ _
  refine bodyPost_ret (ck2_res rfl _ _ (w.heap.size+1) _ _ _ _ _ _ _ _ _ _ rfl rfl (setRow_heap _ _ _ _ _ _ HR3.out)) rfl ?_;exact ⟨C,_,_,_,_,_,_,_,_,HI.out,rfl,(H.out.step (bl_setRow HW3.out (by omega) _)).weak (fun z _ hz=>(s1 z hz).1),bl_setRow HW3.out (by omega) _⟩
 | true=>
  have hcd:=hcld _ HW3.out (bk_lt HR3.out) (fun m hm hw=>hcl.ok rfl m hm hw);clear hcld hcl
  go_wp2_with (first
   | (go_at_call 99;go_loud (refine CM hcd ?_);rintro e w4 ⟨C',a',b',c',d',e',f',g',hC',rfl,hc4,hb4⟩;obtain ⟨E1,u1,v1,E2,u2,v2,E3,u3,v3,E4,u4,v4,E5,u5,v5,E6,u6,v6,E7,u7,v7,rfl,rfl,rfl,rfl,rfl,rfl,rfl⟩:=CkAt.caps hc4;have HR4:=bkh HR3 hb4;have HW4:=blh HW3 hb4;have HC4:=H_ hc4;clear hc4 hb4)
   | (refine st_ck rfl (.tmp 8) (.tmp 40) rfl rfl (w.heap.size+1) rfl rfl HR4.out rfl ?_))
  show bodyPost Tryz.prog Tryz.f56 _ _ _ _
  refine bodyPost_ret (ck2_res rfl _ _ (w.heap.size+1) _ _ _ _ _ _ _ _ _ _ rfl rfl (setRow_heap _ _ _ _ _ _ HR4.out)) rfl ?_;exact ⟨C',_,_,_,_,_,_,_,_,hC',rfl,(HC4.out.kept (KeepS.of_setRow _ _ _ (fun hz=>(s1 _ hz).2.2 rfl))).weak (fun z _ hz=>(s1 z hz).1),bl_setRow HW4.out (by omega) _⟩
end
section
variable {F G Z:Nat}
theorem SoP.one {C C':Ck} {j:Nat} {y:Fl} (hI:Inv F G Z C) (hj:C.files[j]?=some y) (h:SoP C j y C'):Inv F G Z C'∧∃y',C'.files[j]?=some y'∧y'.size=y.size∧∀off n p,UnOk C j y off n true p→UnOk C' j y' off n true p:=by
 rcases h with rfl | ⟨i,x,s,hU,hs0,hs3,rfl⟩
 ·exact ⟨hI,y,hj,rfl,fun _ _ _ h=>h⟩
 ·have hk:FrOk ⟨x.file,x.page,soilG x.pg s,x.tenant,x.holds,x.reading,x.writing⟩:=⟨hU.ok.page,hU.ok.tenant,soilG_ok hU.ok.pg ⟨hs0,hs3⟩,hU.ok.holds,hU.ok.reading,hU.ok.writing⟩;obtain ⟨j0,y0,hu0,hv⟩:=hI.used hU.fr (by rw [hU.ix];omega);obtain ⟨_,rfl,rfl⟩:=hU.eq hu0;obtain ⟨hi,hc⟩:=getR_pos (c:=y0.c) (p:=x.page) (by rw [hv];omega);refine ⟨hI.put hU hk rfl rfl rfl rfl (hI.file j0 y0 hj) C.ptes hI.pok,_,get_self hj,rfl,fun off n p hp=>?_⟩;obtain ⟨i',x',g1,g2,g3,g4⟩:=hp;have hg:getR (markC y0.c x.page ((soilG x.pg s).dirty != 0) (x.writing != 0)) p=(i':Int)+1:=by rw [getR_markC hi hc];exact g1
  by_cases e:i'=i
  ·subst e;obtain rfl:x'=x:=Option.some.inj (g2.fr.symm.trans hU.fr);exact ⟨i',_,hg,⟨get_self hU.fr,get_self hj,hU.ix,hk⟩,g3,g4⟩
  ·exact ⟨i',x',hg,⟨get_set e g2.fr,get_self hj,g2.ix,g2.ok⟩,g3,g4⟩
theorem truncate_w (C:Ck) (j sn sz:Nat) (y:Fl) (a b c d e f g:Value) (S:Nat→Prop) (w:World) (h:CkAt w S a b c d e f g C) (hI:Inv F G Z C) (hj:C.files[j]?=some y) (hsz:y.size=sz) (h2:sn≤128) (hS:∀z,w.heap.size≤z→S z) :
  Calls Tryz.prog 55 #[ckV a b c d e f g,.int .i64 j,.int .i64 sn] w (RetCkE (fun C'=>Inv F G Z C') S w):=by
 have hs8:sz≤128:=by obtain ⟨q,h1,h2⟩:=(hI.file j y hj).size;omega
 obtain ⟨S1,s1,s2,s3⟩:=s1set hS;replace h:=h.weak s3;clear s3;have hjl':=(g_l hj);have hhf:=fun w' (hb:Below w.heap.size w w')=>hasFile_w C j a b c d e f g S1 w' (h.step hb) hjl';have hso:=fun w' (hb:Below w.heap.size w w') (hz:w.heap.size+1<w'.heap.size)=>soiled_w C j sz y (sn:Int) a b c d e f g S1 w' (h.step hb) hI.ok hj hsz hs8 (hI.findOk hj) (fun z hz'=>s2 z (by omega));obtain ⟨m,hm⟩:∃m:Nat,m=128 - sn:=⟨_,rfl⟩;have hmI:(128:Int) - (sn:Int)=(m:Int):=by omega
 have hclr:=fun w' (hb:Below w.heap.size w w')=>clear_w C j sn m sz y a b c d e f g S1 w' (h.step hb) hI.ok hj hsz hs8 (hI.findOk hj) (by omega);have hl:=hI.ok;have HI:=H_ hI;obtain ⟨A1,cf0,rfl,q1,q2⟩:=h.files.form;obtain ⟨A2,m2,c2,rfl⟩:=h.frames.cap;obtain ⟨A3,m3,c3,A4,m4,c4,A5,m5,c5,A6,m6,c6,A7,m7,c7,rfl,rfl,rfl,rfl,rfl⟩:=CkAt.caps5 h;obtain ⟨bf,of,kt,KB,kc,rfl,hbf,k1,k2,k3,k4,hcf⟩:=FlA.cells h.files hj;have hjl:=(g_l hj);have hl1:C.files.length≤100:=hl.files.2;have j2:(j:Int)<(C.files.length:Int):=by omega
 have j0:(0:Int)≤(j:Int):=by omega
 have H:=H_ h;have HL:=H_ hl;have HJ:=H_ hj;clear h hl hj k1 k2 k3 k4;have HSZ:=H_ hsz;clear hI hsz hcf hm;have i1:(0:Int)≤(sn:Int):=by omega
 have i2:(sn:Int)≤128:=by omega
 go_enter Tryz.func55,Tryz.ntmps55
 go_upto_region 1 with fail
 generalize hW9:(w.alloc _).alloc _=W;obtain ⟨HX,HR,HW,HZ⟩:=two_box hW9;clear hW9 HZ;obtain ⟨x0,x1,x2,x3,x4,x5,x6⟩:=cs7 HX.out
 go_upto_region 4 with (first
  | (go_at_call 39;go_loud (refine CM (hhf _ HW.out) ?_);rintro e w1 ⟨rfl,hb1⟩;have HX1:=bkh HX hb1;have HR1:=bkh HR hb1;have HW1:=blh HW hb1;clear hb1 x0 x1 x2 x3 x4 x5 x6;obtain ⟨x0,x1,x2,x3,x4,x5,x6⟩:=cs7 HX1.out)
  | (go_at_call 78;go_loud (refine CM (hso _ HW1.out (bk_lt HR1.out)) ?_);rintro e w4 ⟨Cs,er2,a',b',c',d',e',f',g',hsp,rfl,hcs,hb4⟩;obtain ⟨E1,u1,v1,E2,u2,v2,E3,u3,v3,E4,u4,v4,E5,u5,v5,E6,u6,v6,E7,u7,v7,rfl,rfl,rfl,rfl,rfl,rfl,rfl⟩:=CkAt.caps hcs)
  | fail)
 obtain ⟨X,hXe⟩:∃X,X=w4.heap.size:=⟨_,rfl⟩;have HX5:=H_ (bk_alloc (bk_step HX1.out hb4) (.cells #[.slice E1 u1 v1,.slice E2 u2 v2,.slice E3 u3 v3,.slice E4 u4 v4,.slice E5 u5 v5,.slice E6 u6 v6,.slice E7 u7 v7] 30));have HR5:=H_ (bk_alloc (bk_step HR1.out hb4) (.cells #[.slice E1 u1 v1,.slice E2 u2 v2,.slice E3 u3 v3,.slice E4 u4 v4,.slice E5 u5 v5,.slice E6 u6 v6,.slice E7 u7 v7] 30));have HO5:=H_ (heap_at_new w4 (.cells #[.slice E1 u1 v1,.slice E2 u2 v2,.slice E3 u3 v3,.slice E4 u4 v4,.slice E5 u5 v5,.slice E6 u6 v6,.slice E7 u7 v7] 30) X hXe.symm);have HW5:=H_ (bl_alloc (bl_step HW1.out hb4) (.cells #[.slice E1 u1 v1,.slice E2 u2 v2,.slice E3 u3 v3,.slice E4 u4 v4,.slice E5 u5 v5,.slice E6 u6 v6,.slice E7 u7 v7] 30));have hXz:w.heap.size+1<X:=by rw [hXe];exact bk_lt (bk_step HR1.out hb4)
 obtain ⟨S2,hS2⟩:∃S2:Nat→Prop,S2=fun z=>S1 z∧z≠X:=⟨_,rfl⟩;have s3:∀z,S2 z→S1 z∧z≠X:=fun z hz=>by rw [hS2] at hz;exact hz
 have s4:∀z,X<z→S2 z:=fun z hz=>by rw [hS2];exact ⟨s2 z (by omega),by omega⟩
 have HCS:=H_ ((hcs.weak (S':=S2) (fun z hz h=>by rw [hS2];exact ⟨h,by omega⟩)).step (bl_alloc (Below.refl w4.heap.size w4) (.cells #[.slice E1 u1 v1,.slice E2 u2 v2,.slice E3 u3 v3,.slice E4 u4 v4,.slice E5 u5 v5,.slice E6 u6 v6,.slice E7 u7 v7] 30)));have hs5:(w4.alloc (.cells #[.slice E1 u1 v1,.slice E2 u2 v2,.slice E3 u3 v3,.slice E4 u4 v4,.slice E5 u5 v5,.slice E6 u6 v6,.slice E7 u7 v7] 30)).heap.size=X+1:=by simp [hXe]
 obtain ⟨hIs,ys,hjs,hszs,hus⟩:=hsp.1.one HI.out HJ.out;have HIS:=H_ hIs;have HJS:=H_ hjs;have HSS:=H_ (hszs.trans HSZ.out);have HUS:=H_ hus;rw [←hXe];generalize w4.alloc (.cells #[.slice E1 u1 v1,.slice E2 u2 v2,.slice E3 u3 v3,.slice E4 u4 v4,.slice E5 u5 v5,.slice E6 u6 v6,.slice E7 u7 v7] 30)=W5 at HX5 HR5 HO5 HW5 HCS hs5;clear hcs hb4 hXe hS2 x0 x1 x2 x3 x4 x5 x6 HX1 HR1 HW1 hso hsp hIs hjs hszs hus hhf;obtain ⟨x0,x1,x2,x3,x4,x5,x6⟩:=cs7 HX5.out
 by_cases he:er2=0
 ·subst he
  go_upto_region 7 with (go_at_call 98;go_loud (refine CM (hclr _ HW5.out) ?_);rintro e w6 ⟨wh,cu,may,rfl,hcl,hb6⟩)
  have HX6:=bkh HX5 hb6;have HR6:=bkh HR5 hb6;have HO6:=bkh HO5 hb6;have HW6:=blh HW5 hb6;have HCS6:=H_ (HCS.out.step hb6);have hz6:=hb6.size;clear hb6 x0 x1 x2 x3 x4 x5 x6
  cases may with
  | false=>
   obtain ⟨x0,x1,x2,x3,x4,x5,x6⟩:=cs7 HX6.out
   go_wp2_with (refine st_ck rfl (.tmp 6) (.tmp 49) rfl rfl (w.heap.size+1) rfl rfl HR6.out rfl ?_)
   show bodyPost Tryz.prog Tryz.f55 _ _ _ _
   refine bodyPost_ret (ck2_res rfl _ _ (w.heap.size+1) _ _ _ _ _ _ _ _ _ _ rfl rfl (setRow_heap _ _ _ _ _ _ HR6.out)) rfl ?_;exact ⟨C,_,_,_,_,_,_,_,_,HI.out,rfl,(H.out.step (bl_setRow HW6.out (by omega) _)).weak (fun z _ hz=>(s1 z hz).1),bl_setRow HW6.out (by omega) _⟩
  | true=>
   have hcld:=cleared_w Cs j sn m sz ys _ _ _ _ _ _ _ S2 w6 HCS6.out HIS.out HJS.out HSS.out hs8 (by omega) (fun q hq hw=>HUS.out _ _ _ (hcl.ok rfl q hq hw)) (fun z hz=>s4 z (by omega));clear hcl;obtain ⟨x0,x1,x2,x3,x4,x5,x6⟩:=cs7 HO6.out
   go_upto_region 10 with (first
    | (go_at_call 99;go_loud (refine CM hcld ?_);rintro e w7 ⟨C1,a',b',c',d',e',f',g',hI1,rfl,hc7,hb7⟩)
    | (go_at_call 69;go_loud (refine CM (copyL_w C1 _ _ _ _ _ _ _ S2 _ hc7 hI1.ok (fun z hz=>s4 z (by have:=hb7.size;omega))) ?_);rintro e w8 ⟨gf,nf,cf,gr,nr,cr,c',d',gl,nl,cl,gk,nk,ck,g',rfl,hc8,hb8⟩;obtain ⟨P3,n3,r3,rfl⟩:=hc8.zones.cap;obtain ⟨P4,n4,r4,rfl⟩:=hc8.groups.cap;obtain ⟨P7,n7,r7,rfl⟩:=hc8.ptes.cap;have HO8:=H_ (bk_step (bk_step HO6.out hb7) hb8);have HR8:=H_ (bk_step (bk_step HR6.out hb7) hb8);have HW8:=H_ (bl_step (bl_step HW6.out hb7) hb8))
    | (refine st_ck rfl (.tmp 8) (.tmp 56) rfl rfl X rfl rfl HO8.out rfl ?_)
    | fail)
   have hz7:X<w7.heap.size:=by have:=hb7.size;omega
   have ef:=hc8.ef;subst ef;have hord:X<gf∧gf<gr∧gr<gl∧gl<gk:=⟨by have:=hc8.o1;omega,hc8.o2,hc8.o3,hc8.o4⟩;have HO9:=H_ (show (w8.setRow X (#[.slice (some ⟨gf,0,none⟩) C1.files.length cf,.slice (some ⟨gr,0,none⟩) nr cr,.slice P3 n3 r3,.slice P4 n4 r4,.slice (some ⟨gl,0,none⟩) nl cl,.slice (some ⟨gk,0,none⟩) nk ck,.slice P7 n7 r7]:Array Value)).heap[X]?=some (.cells (#[.slice (some ⟨gf,0,none⟩) C1.files.length cf,.slice (some ⟨gr,0,none⟩) nr cr,.slice P3 n3 r3,.slice P4 n4 r4,.slice (some ⟨gl,0,none⟩) nl cl,.slice (some ⟨gk,0,none⟩) nk ck,.slice P7 n7 r7]:Array Value) 30 (0,0)) from setRow_heap _ _ _ _ _ _ HO8.out);have HR9:=H_ ((setRow_other w8 X (w.heap.size+1) (#[.slice (some ⟨gf,0,none⟩) C1.files.length cf,.slice (some ⟨gr,0,none⟩) nr cr,.slice P3 n3 r3,.slice P4 n4 r4,.slice (some ⟨gl,0,none⟩) nl cl,.slice (some ⟨gk,0,none⟩) nk ck,.slice P7 n7 r7]:Array Value) (by omega)).trans HR8.out);have HW9:=H_ (bl_setRow HW8.out (by omega:w.heap.size≤X) (#[.slice (some ⟨gf,0,none⟩) C1.files.length cf,.slice (some ⟨gr,0,none⟩) nr cr,.slice P3 n3 r3,.slice P4 n4 r4,.slice (some ⟨gl,0,none⟩) nl cl,.slice (some ⟨gk,0,none⟩) nk ck,.slice P7 n7 r7]:Array Value));have HC9:=H_ (hc8.setRow X (#[.slice (some ⟨gf,0,none⟩) C1.files.length cf,.slice (some ⟨gr,0,none⟩) nr cr,.slice P3 n3 r3,.slice P4 n4 r4,.slice (some ⟨gl,0,none⟩) nl cl,.slice (some ⟨gk,0,none⟩) nk ck,.slice P7 n7 r7]:Array Value) (fun hz=>(s3 _ hz).2 rfl) hz7);generalize w8.setRow X (#[.slice (some ⟨gf,0,none⟩) C1.files.length cf,.slice (some ⟨gr,0,none⟩) nr cr,.slice P3 n3 r3,.slice P4 n4 r4,.slice (some ⟨gl,0,none⟩) nl cl,.slice (some ⟨gk,0,none⟩) nk ck,.slice P7 n7 r7]:Array Value)=W9 at HO9 HR9 HW9 HC9;have hjf:j<C1.files.length:=by have:=(g_l HJ.out);have:=hI1.nf;have:=HI.out.nf;omega
   obtain ⟨y1,hj1⟩:∃y1,C1.files[j]?=some y1:=⟨_,List.getElem?_eq_getElem hjf⟩;have HI1:=H_ hI1;have HJ1:=H_ hj1;have hlf1:C1.files.length≤100:=hI1.ok.files.2;have hjf2:(j:Int)<(C1.files.length:Int):=by omega
   obtain ⟨⟨uu,hu⟩,hfz⟩:=HC9.out.files.slot hjf (p:=6) (by omega);clear hI1 hj1 hc7 hb7 hc8 hb8 HO8 HR8 HW8 hcld x0 x1 x2 x3 x4 x5 x6;obtain ⟨x0,x1,x2,x3,x4,x5,x6⟩:=cs7 HO9.out
   go_upto_region 11 with fail
   have HC10:=H_ (HC9.out.putFiles (gb_setCells W9 gf (j*15+6) [.int .i64 (sn:Int)]) (HC9.out.files.size HJ1.out (sn:Int)) (by simp));have HO10:=H_ ((Below.heap_setCell W9 ⟨gf,j*15+6,none⟩ (.int .i64 (sn:Int)) X (by show X≠gf;omega)).trans HO9.out);have HR10:=H_ ((Below.heap_setCell W9 ⟨gf,j*15+6,none⟩ (.int .i64 (sn:Int)) (w.heap.size+1) (by show w.heap.size+1≠gf;omega)).trans HR9.out);have HW10:=H_ (bl_set HW9.out ⟨gf,j*15+6,none⟩ (.int .i64 (sn:Int)) (by show w.heap.size≤gf;omega));rw [show W9.setCells gf (j*15+6) [.int .i64 (sn:Int)]=W9.setCell ⟨gf,j*15+6,none⟩ (.int .i64 (sn:Int)) from rfl] at HC10;generalize W9.setCell ⟨gf,j*15+6,none⟩ (.int .i64 (sn:Int))=W10 at HC10 HO10 HR10 HW10;clear x0 x1 x2 x3 x4 x5 x6 hu hfz;obtain ⟨x0,x1,x2,x3,x4,x5,x6⟩:=cs7 HO10.out
   go_wp2_with (refine st_ck rfl (.tmp 6) (.tmp 63) rfl rfl (w.heap.size+1) rfl rfl HR10.out rfl ?_)
   show bodyPost Tryz.prog Tryz.f55 _ _ _ _
   refine bodyPost_ret (ck2_res rfl _ _ (w.heap.size+1) _ _ _ _ _ _ _ _ _ _ rfl rfl (setRow_heap _ _ _ _ _ _ HR10.out)) rfl ?_;exact ⟨_,_,_,_,_,_,_,_,_,HI1.out.size HJ1.out h2,rfl,((HC10.out.setRow (w.heap.size+1) (#[.slice (some ⟨gf,0,none⟩) C1.files.length cf,.slice (some ⟨gr,0,none⟩) nr cr,.slice P3 n3 r3,.slice P4 n4 r4,.slice (some ⟨gl,0,none⟩) nl cl,.slice (some ⟨gk,0,none⟩) nk ck,.slice P7 n7 r7]:Array Value) (fun hz=>(s1 _ (s3 _ hz).1).2.2 rfl) (by omega)).weak (by omega) (fun z hz=>(s1 z (s3 z hz).1).1) hS).at_,bl_setRow HW10.out (by omega) _⟩
 ·have d1:(er2 != 0)=true:=bne_iff_ne.2 he;clear he
  go_wp2_with (refine st_ck rfl (.tmp 6) (.tmp 35) rfl rfl (w.heap.size+1) rfl rfl HR5.out rfl ?_)
  show bodyPost Tryz.prog Tryz.f55 _ _ _ _
  refine bodyPost_ret (ck2_res rfl _ _ (w.heap.size+1) _ _ _ _ _ _ _ _ _ _ rfl rfl (setRow_heap _ _ _ _ _ _ HR5.out)) rfl ?_;exact ⟨C,_,_,_,_,_,_,_,_,HI.out,rfl,(H.out.step (bl_setRow HW5.out (by omega) _)).weak (fun z _ hz=>(s1 z hz).1),bl_setRow HW5.out (by omega) _⟩
end
end Go.Proofs.YthhekebemmckcaaGreatDoor
