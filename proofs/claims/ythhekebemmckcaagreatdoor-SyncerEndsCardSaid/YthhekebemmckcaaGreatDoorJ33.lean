/-
  Lemmas and contracts for the laws of synchronisations (layer 43), part 33; several texts joined by a program.
-/
import Derived.Test.YthhekebemmckcaaGreatDoorJ01
import Derived.Test.YthhekebemmckcaaGreatDoorJ16
import Derived.Test.YthhekebemmckcaaGreatDoorJ31
namespace Go.Proofs.YthhekebemmckcaaGreatDoor
set_option linter.unusedVariables false
set_option linter.unusedSimpArgs false
set_option maxRecDepth 100000
set_option maxHeartbeats 16000000
open Go.RowKit
section
variable {F G Z:Nat}
theorem SoP.putS {C C':Ck} {j off n:Nat} {y:Fl} (hI:Inv F G Z C) (hj:C.files[j]?=some y) (h:SoP C j y C') (hu:∀p ∈ pagesL off n,UnOk C j y off n true p):PutS F G Z off n j 0 C':=by
 rcases h with rfl | ⟨i,x,s,hU,hs0,hs3,rfl⟩
 ·exact ⟨hI,y,hj,fun m p _ hp=>hu p (List.mem_of_getElem? hp)⟩
 ·have hk:FrOk ⟨x.file,x.page,soilG x.pg s,x.tenant,x.holds,x.reading,x.writing⟩:=⟨hU.ok.page,hU.ok.tenant,soilG_ok hU.ok.pg ⟨hs0,hs3⟩,hU.ok.holds,hU.ok.reading,hU.ok.writing⟩;obtain ⟨j0,y0,hu0,hv⟩:=hI.used hU.fr (by rw [hU.ix];omega);obtain ⟨_,rfl,rfl⟩:=hU.eq hu0;obtain ⟨hi,hc⟩:=getR_pos (c:=y0.c) (p:=x.page) (by rw [hv];omega);refine ⟨hI.put hU hk rfl rfl rfl rfl (hI.file j0 y0 hj) C.ptes hI.pok,_,get_self hj,fun m p _ hp=>?_⟩;obtain ⟨i',x',g1,g2,g3,g4⟩:=hu p (List.mem_of_getElem? hp);have hg:getR (markC y0.c x.page ((soilG x.pg s).dirty != 0) (x.writing != 0)) p=(i':Int)+1:=by rw [getR_markC hi hc];exact g1
  by_cases e:i'=i
  ·subst e;obtain rfl:x'=x:=Option.some.inj (g2.fr.symm.trans hU.fr);exact ⟨i',_,hg,⟨get_self hU.fr,get_self hj,hU.ix,hk⟩,g3,g4⟩
  ·exact ⟨i',x',hg,⟨get_set e g2.fr,get_self hj,g2.ix,g2.ok⟩,g3,g4⟩
def WrP (F G Z:Nat) (C:Ck) (j off n sz:Nat) (y:Fl) (C':Ck) (err:Int):Prop:=Inv F G Z C'∧(sz % 16=0→(∀p ∈ pagesL off n,UnOk C j y off n true p)→err=0∧∃C1 y1,PutN off n j C ((off+n+15) / 16 - off / 16) C1∧C1.files[j]?=some y1∧C'={C1 with files:=C1.files.set j {y1 with size:=max y1.size ((off:Int)+(n:Int))}})
theorem Inv.size {C:Ck} (h:Inv F G Z C) {j:Nat} {y:Fl} (hj:C.files[j]?=some y) {sz:Nat} (hs:sz≤128):Inv F G Z {C with files:=C.files.set j {y with size:=sz}}:=
 h.rel (FrRel.refl h) (FlRel.set h hj (fun _ _=>rfl) ⟨⟨sz,rfl,hs⟩,(h.file j y hj).slot,(h.file j y hj).err⟩) rfl rfl h.nl h.nk h.lok h.pok
theorem LW.size {w:World} {S:Nat→Prop} {g:Nat} {L:List Fl} (h:LW FlR w S g L) {j:Nat} {y:Fl} (hj:L[j]?=some y) (v:Int):LW FlR (w.setCell ⟨g,j*15+6,none⟩ (.int .i64 v)) S g (L.set j {y with size:=v}):=
 h.setOne hj (by omega) rfl fun r ⟨h',A,cap,k1,k2,k3,k4,e⟩=>by subst e;exact ⟨h',A,cap,k1,k2,k3,k4,rfl⟩
theorem cwrite_w (C:Ck) (j off sz:Nat) (y:Fl) (s:ByteArray) (a b c d e f g:Value) (S:Nat→Prop) (w:World) (h:CkAt w S a b c d e f g C) (hI:Inv F G Z C) (hj:C.files[j]?=some y) (hsz:y.size=sz) (h1:1≤s.size) (h2:off+s.size≤128) (hS:∀z,w.heap.size≤z→S z) :
  Calls Tryz.prog 38 #[ckV a b c d e f g,.int .i64 j,.int .i64 off,.string s] w (RetCkF (WrP F G Z C j off s.size sz y) S w):=by
 have hs8:sz≤128:=by obtain ⟨q,h1,h2⟩:=(hI.file j y hj).size;omega
 obtain ⟨S1,s1,s2,s3⟩:=s1set hS;replace h:=h.weak s3;clear s3;obtain ⟨n,hn⟩:∃n,n=s.size:=⟨_,rfl⟩;rw [←hn] at h1 h2 ⊢;have HN:=H_ hn;have hlen:(s.size:Int)=(n:Int):=by omega
 have hjl':=(g_l hj);have hhf:=fun w' (hb:Below w.heap.size w w')=>hasFile_w C j a b c d e f g S1 w' (h.step hb) hjl';have hby:=fun w'=>cbytes_w (off:Int) (n:Int) w' (by omega) (by omega) (by omega) (by omega);have hun:=fun w' (hb:Below w.heap.size w w')=>unread_w C j y off n true a b c d e f g S1 w' (h.step hb) hI.ok hj (hI.findOk hj) h1 h2;have hso:=fun w' (hb:Below w.heap.size w w') (hz:w.heap.size+1<w'.heap.size)=>soiled_w C j sz y ((off:Int)+(n:Int)) a b c d e f g S1 w' (h.step hb) hI.ok hj hsz hs8 (hI.findOk hj) (fun z hz'=>s2 z (by omega));have hl:=hI.ok;have HI:=H_ hI;obtain ⟨A1,cf0,rfl,q1,q2⟩:=h.files.form;obtain ⟨A2,m2,c2,rfl⟩:=h.frames.cap;obtain ⟨A3,m3,c3,A4,m4,c4,A5,m5,c5,A6,m6,c6,A7,m7,c7,rfl,rfl,rfl,rfl,rfl⟩:=CkAt.caps5 h;obtain ⟨bf,of,kt,KB,kc,rfl,hbf,k1,k2,k3,k4,hcf⟩:=FlA.cells h.files hj;have hjl:=(g_l hj);have hl1:C.files.length≤100:=hl.files.2;have j2:(j:Int)<(C.files.length:Int):=by omega
 have j0:(0:Int)≤(j:Int):=by omega
 have H:=H_ h;have HL:=H_ hl;have HJ:=H_ hj;clear h hl hj k1 k2 k3 k4;have HSZ:=H_ hsz;clear hI hn hsz hcf;have n0:((n:Int) == 0)=false:=beq_eq_false_iff_ne.2 (by omega);go_enter Tryz.func38,Tryz.ntmps38
 go_upto_region 1 with fail
 generalize hW9:(w.alloc _).alloc _=W;obtain ⟨HX,HR,HW,HZ⟩:=two_box hW9;clear hW9 HZ;obtain ⟨x0,x1,x2,x3,x4,x5,x6⟩:=cs7 HX.out
 go_upto_region 6 with (first
  | (go_at_call 39;go_loud (refine CM (hhf _ HW.out) ?_);rintro e w1 ⟨rfl,hb1⟩;have HX1:=bkh HX hb1;have HR1:=bkh HR hb1;have HW1:=blh HW hb1;clear hb1 x0 x1 x2 x3 x4 x5 x6;obtain ⟨x0,x1,x2,x3,x4,x5,x6⟩:=cs7 HX1.out)
  | (go_at_call 76;go_loud (refine CM (hby _) ?_);rintro e w2 ⟨rfl,rfl⟩)
  | (go_at_call 77;go_loud (refine CM (hun _ HW1.out) ?_);rintro e w3 ⟨u,K,err,rfl,hK,hKl,her,hgood,hback,hb3⟩;have HX3:=bkh HX1 hb3;have HR3:=bkh HR1 hb3;have HW3:=blh HW1 hb3;clear hb3)
  | fail)
 clear hhf hby hun x0 x1 x2 x3 x4 x5 x6 HX HR HW HX1 HR1 HW1;obtain ⟨A9,cap9,rfl,_,_⟩:=hK.form;have hz3:w.heap.size+1<w3.heap.size:=bk_lt HR3.out;have HG:=H_ hgood;have HBK:=H_ hback;clear hgood hback hK;obtain ⟨x0,x1,x2,x3,x4,x5,x6⟩:=cs7 HX3.out
 go_upto_region 7 with (go_at_call 78;go_loud (refine CM (hso _ HW3.out hz3) ?_);rintro e w4 ⟨Cs,er2,a',b',c',d',e',f',g',hsp,rfl,hcs,hb4⟩;obtain ⟨E1,u1,v1,E2,u2,v2,E3,u3,v3,E4,u4,v4,E5,u5,v5,E6,u6,v6,E7,u7,v7,rfl,rfl,rfl,rfl,rfl,rfl,rfl⟩:=CkAt.caps hcs)
 obtain ⟨X,hXe⟩:∃X,X=w4.heap.size:=⟨_,rfl⟩;have HX5:=H_ (bk_alloc (bk_step HX3.out hb4) (.cells #[.slice E1 u1 v1,.slice E2 u2 v2,.slice E3 u3 v3,.slice E4 u4 v4,.slice E5 u5 v5,.slice E6 u6 v6,.slice E7 u7 v7] 30));have HR5:=H_ (bk_alloc (bk_step HR3.out hb4) (.cells #[.slice E1 u1 v1,.slice E2 u2 v2,.slice E3 u3 v3,.slice E4 u4 v4,.slice E5 u5 v5,.slice E6 u6 v6,.slice E7 u7 v7] 30));have HO5:=H_ (heap_at_new w4 (.cells #[.slice E1 u1 v1,.slice E2 u2 v2,.slice E3 u3 v3,.slice E4 u4 v4,.slice E5 u5 v5,.slice E6 u6 v6,.slice E7 u7 v7] 30) X hXe.symm);have HW5:=H_ (bl_alloc (bl_step HW3.out hb4) (.cells #[.slice E1 u1 v1,.slice E2 u2 v2,.slice E3 u3 v3,.slice E4 u4 v4,.slice E5 u5 v5,.slice E6 u6 v6,.slice E7 u7 v7] 30));have hXz:w.heap.size+1<X:=by rw [hXe];exact bk_lt (bk_step HR3.out hb4)
 obtain ⟨S2,hS2⟩:∃S2:Nat→Prop,S2=fun z=>S1 z∧z≠X:=⟨_,rfl⟩;have s3:∀z,S2 z→S1 z∧z≠X:=fun z hz=>by rw [hS2] at hz;exact hz
 have s4:∀z,X<z→S2 z:=fun z hz=>by rw [hS2];exact ⟨s2 z (by omega),by omega⟩
 have HCS:=H_ ((hcs.weak (S':=S2) (fun z hz h=>by rw [hS2];exact ⟨h,by omega⟩)).step (bl_alloc (Below.refl w4.heap.size w4) (.cells #[.slice E1 u1 v1,.slice E2 u2 v2,.slice E3 u3 v3,.slice E4 u4 v4,.slice E5 u5 v5,.slice E6 u6 v6,.slice E7 u7 v7] 30)));have hs5:(w4.alloc (.cells #[.slice E1 u1 v1,.slice E2 u2 v2,.slice E3 u3 v3,.slice E4 u4 v4,.slice E5 u5 v5,.slice E6 u6 v6,.slice E7 u7 v7] 30)).heap.size=X+1:=by simp [hXe]
 have HSP:=H_ hsp;rw [←hXe];generalize w4.alloc (.cells #[.slice E1 u1 v1,.slice E2 u2 v2,.slice E3 u3 v3,.slice E4 u4 v4,.slice E5 u5 v5,.slice E6 u6 v6,.slice E7 u7 v7] 30)=W5 at HX5 HR5 HO5 HW5 HCS hs5;clear hcs hb4 hXe hS2 x0 x1 x2 x3 x4 x5 x6 HX3 HR3 HW3 hso hsp;obtain ⟨x0,x1,x2,x3,x4,x5,x6⟩:=cs7 HX5.out
 by_cases e1:err=4∨er2=4
 ·have HE:=H_ e1;have d1:(err == 4)=true∨((err == 4)=false∧(er2 == 4)=true):=by
   rcases e1 with e | e
   ·exact .inl (beq_iff_eq.2 e)
   ·by_cases h4:err=4
    ·exact .inl (beq_iff_eq.2 h4)
    ·exact .inr ⟨beq_eq_false_iff_ne.2 h4,beq_iff_eq.2 e⟩
  clear e1
  rcases d1 with d1 | ⟨d1,d2⟩
  all_goals
   go_wp2_with (refine st_ck rfl (.tmp 8) (.tmp 55) rfl rfl (w.heap.size+1) rfl rfl HR5.out rfl ?_)
   show bodyPost Tryz.prog Tryz.f38 _ _ _ _
   refine bodyPost_ret (ck2_res rfl _ _ (w.heap.size+1) _ _ _ _ _ _ _ _ _ _ rfl rfl (setRow_heap _ _ _ _ _ _ HR5.out)) rfl ?_;exact ⟨C,_,_,_,_,_,_,_,_,⟨HI.out,fun h hall=>absurd HE.out (by have:=(HBK.out hall).1;have:=(HSP.out.2 h).2;omega)⟩,rfl,(H.out.step (bl_setRow HW5.out (by omega) _)).weak (fun z _ hz=>(s1 z hz).1),bl_setRow HW5.out (by omega) _⟩
 ·have d1:(err == 4)=false:=beq_eq_false_iff_ne.2 (by omega);have d2:(er2 == 4)=false:=beq_eq_false_iff_ne.2 (by omega)
  by_cases e2:0<K.length∨er2≠0
  ·have HE:=H_ e2;have d3:(∃q:Nat,K.length=q+1)∨(K=[]∧(er2 != 0)=true):=by
    by_cases h4:0<K.length
    ·exact .inl ⟨K.length - 1,by omega⟩
    ·exact .inr ⟨List.eq_nil_of_length_eq_zero (by omega),bne_iff_ne.2 (by omega)⟩
   clear e1 e2
   rcases d3 with ⟨q,d3⟩ | ⟨rfl,d4⟩
   all_goals
    go_wp2_with (refine st_ck rfl (.tmp 8) (.tmp 63) rfl rfl (w.heap.size+1) rfl rfl HR5.out rfl ?_)
    show bodyPost Tryz.prog Tryz.f38 _ _ _ _
    refine bodyPost_ret (ck2_res rfl _ _ (w.heap.size+1) _ _ _ _ _ _ _ _ _ _ rfl rfl (setRow_heap _ _ _ _ _ _ HR5.out)) rfl ?_;exact ⟨C,_,_,_,_,_,_,_,_,⟨HI.out,fun h hall=>absurd HE.out (by have:=(HBK.out hall).2;have:=(HSP.out.2 h).2;simp_all)⟩,rfl,(H.out.step (bl_setRow HW5.out (by omega) _)).weak (fun z _ hz=>(s1 z hz).1),bl_setRow HW5.out (by omega) _⟩
  ·have hK0:K=[]:=List.eq_nil_of_length_eq_zero (by omega);have her0:err=0:=by omega
   have he20:er2=0:=by omega
   have hgd:=HG.out her0 hK0;have HPT:=H_ (HSP.out.1.putS HI.out HJ.out hgd);subst hK0 her0 he20;clear e1 e2 d1 d2 her hgd;clear x0 x1 x2 x3 x4 x5 x6;obtain ⟨x0,x1,x2,x3,x4,x5,x6⟩:=cs7 HO5.out;have hput:=fun w' (hb:Below W5.heap.size W5 w')=>cput_w Cs j off s _ _ _ _ _ _ _ S2 w' (HCS.out.step hb) (by rw [←HN.out];exact HPT.out) (by rw [←HN.out];exact h1) (by rw [←HN.out];exact h2) (fun z hz=>s4 z (by have:=hb.size;omega));rw [←HN.out] at hput
   go_upto_region 12 with (first
    | (go_at_call 79;go_loud (refine CM (hput _ B_) ?_);rintro e w6 ⟨C1,a',b',c',d',e',f',g',hC1,rfl,hc6,hb6⟩)
    | (go_at_call 69;go_loud (refine CM (copyL_w C1 _ _ _ _ _ _ _ S2 _ hc6 hC1.1.1.ok (fun z hz=>s4 z (by have:=hb6.size;omega))) ?_);rintro e w7 ⟨gf,nf,cf,gr,nr,cr,c',d',gl,nl,cl,gk,nk,ck,g',rfl,hc7,hb7⟩;obtain ⟨P3,n3,r3,rfl⟩:=hc7.zones.cap;obtain ⟨P4,n4,r4,rfl⟩:=hc7.groups.cap;obtain ⟨P7,n7,r7,rfl⟩:=hc7.ptes.cap;have HO7:=H_ (bk_step (bk_step HO5.out hb6) hb7);have HR7:=H_ (bk_step (bk_step HR5.out hb6) hb7);have HW7:=H_ (bl_step (bl_step HW5.out hb6) hb7))
    | (refine st_ck rfl (.tmp 12) (.tmp 69) rfl rfl X rfl rfl HO7.out rfl ?_)
    | fail)
   have hz6:X<w6.heap.size:=by have:=hb6.size;omega
   have ef:=hc7.ef;subst ef;have hord:X<gf∧gf<gr∧gr<gl∧gl<gk:=⟨by have:=hc7.o1;have:=hb6.size;omega,hc7.o2,hc7.o3,hc7.o4⟩;have HO8:=H_ (show (w7.setRow X (#[.slice (some ⟨gf,0,none⟩) C1.files.length cf,.slice (some ⟨gr,0,none⟩) nr cr,.slice P3 n3 r3,.slice P4 n4 r4,.slice (some ⟨gl,0,none⟩) nl cl,.slice (some ⟨gk,0,none⟩) nk ck,.slice P7 n7 r7]:Array Value)).heap[X]?=some (.cells (#[.slice (some ⟨gf,0,none⟩) C1.files.length cf,.slice (some ⟨gr,0,none⟩) nr cr,.slice P3 n3 r3,.slice P4 n4 r4,.slice (some ⟨gl,0,none⟩) nl cl,.slice (some ⟨gk,0,none⟩) nk ck,.slice P7 n7 r7]:Array Value) 30 (0,0)) from setRow_heap _ _ _ _ _ _ HO7.out);have HR8:=H_ ((setRow_other w7 X (w.heap.size+1) (#[.slice (some ⟨gf,0,none⟩) C1.files.length cf,.slice (some ⟨gr,0,none⟩) nr cr,.slice P3 n3 r3,.slice P4 n4 r4,.slice (some ⟨gl,0,none⟩) nl cl,.slice (some ⟨gk,0,none⟩) nk ck,.slice P7 n7 r7]:Array Value) (by omega)).trans HR7.out);have HW8:=H_ (bl_setRow HW7.out (by omega:w.heap.size≤X) (#[.slice (some ⟨gf,0,none⟩) C1.files.length cf,.slice (some ⟨gr,0,none⟩) nr cr,.slice P3 n3 r3,.slice P4 n4 r4,.slice (some ⟨gl,0,none⟩) nl cl,.slice (some ⟨gk,0,none⟩) nk ck,.slice P7 n7 r7]:Array Value));have HC8:=H_ (hc7.setRow X (#[.slice (some ⟨gf,0,none⟩) C1.files.length cf,.slice (some ⟨gr,0,none⟩) nr cr,.slice P3 n3 r3,.slice P4 n4 r4,.slice (some ⟨gl,0,none⟩) nl cl,.slice (some ⟨gk,0,none⟩) nk ck,.slice P7 n7 r7]:Array Value) (fun hz=>(s3 _ hz).2 rfl) (by have:=hb6.size;omega));generalize w7.setRow X (#[.slice (some ⟨gf,0,none⟩) C1.files.length cf,.slice (some ⟨gr,0,none⟩) nr cr,.slice P3 n3 r3,.slice P4 n4 r4,.slice (some ⟨gl,0,none⟩) nl cl,.slice (some ⟨gk,0,none⟩) nk ck,.slice P7 n7 r7]:Array Value)=W8 at HO8 HR8 HW8 HC8;obtain ⟨hI1,y1,hj1,_⟩:=hC1.1;obtain ⟨z1,hz1,hz8⟩:=(hI1.file j y1 hj1).size;have HC1:=H_ hC1;have HI1:=H_ hI1;have HJ1:=H_ hj1;have HZ1:=H_ hz1;have hjf:j<C1.files.length:=(g_l hj1);have hlf1:C1.files.length≤100:=hI1.ok.files.2
   have hjf2:(j:Int)<(C1.files.length:Int):=by omega
   obtain ⟨z7,z8,z9,z6⟩:=LW.fl_at HC8.out.files hj1;rw [hz1] at z6;clear hC1 hI1 hj1 hz1 hc6 hb6 hc7 hb7 HO7 HR7 HW7 HO5 HR5 HX5 HW5 HCS HPT hput x0 x1 x2 x3 x4 x5 x6 hs5;obtain ⟨x0,x1,x2,x3,x4,x5,x6⟩:=cs7 HO8.out;have hlo:=bk_lt HO8.out;have hlg:=HC8.out.files.lt
   go_cut [] (fun wx=>CpL wx S2 w6.heap.size gf C1.files.length cf gr nr cr (.slice P3 n3 r3) (.slice P4 n4 r4) gl nl cl gk nk ck (.slice P7 n7 r7) (⟨C1.files.set j ⟨y1.dev,y1.slot,y1.c,max (z1:Int) ((off:Int)+(n:Int)),y1.blocks,y1.ecnt,y1.eerr,y1.sseq,y1.ssize,y1.sblocks,y1.which,y1.seq⟩,C1.frames,C1.zones,C1.groups,C1.lists,C1.clocks,C1.ptes⟩:Ck)∧wx.heap[X]?=some (.cells (#[.slice (some ⟨gf,0,none⟩) C1.files.length cf,.slice (some ⟨gr,0,none⟩) nr cr,.slice P3 n3 r3,.slice P4 n4 r4,.slice (some ⟨gl,0,none⟩) nl cl,.slice (some ⟨gk,0,none⟩) nk ck,.slice P7 n7 r7]:Array Value) 30 (0,0))∧wx.heap[w.heap.size+1]?=some (oCZ)∧Below w.heap.size w wx)
   case first=>
    refine wp_region_sk (S:=TS S2 gf gr gl gk) 87 16 (fun i=>decide (i≤15)) (fun wx=>CpL wx S2 w6.heap.size gf C1.files.length cf gr nr cr (.slice P3 n3 r3) (.slice P4 n4 r4) gl nl cl gk nk ck (.slice P7 n7 r7) (⟨C1.files.set j ⟨y1.dev,y1.slot,y1.c,max (z1:Int) ((off:Int)+(n:Int)),y1.blocks,y1.ecnt,y1.eerr,y1.sseq,y1.ssize,y1.sblocks,y1.which,y1.seq⟩,C1.frames,C1.zones,C1.groups,C1.lists,C1.clocks,C1.ptes⟩:Ck)∧wx.heap[X]?=some (.cells (#[.slice (some ⟨gf,0,none⟩) C1.files.length cf,.slice (some ⟨gr,0,none⟩) nr cr,.slice P3 n3 r3,.slice P4 n4 r4,.slice (some ⟨gl,0,none⟩) nl cl,.slice (some ⟨gk,0,none⟩) nk ck,.slice P7 n7 r7]:Array Value) 30 (0,0))∧wx.heap[w.heap.size+1]?=some (oCZ)∧Below w.heap.size w wx) [SK.eq (.pointer (some ⟨X,0,none⟩)),SK.eq (.slice (some ⟨gf,0,none⟩) C1.files.length cf),SK.eq (.int .i64 (j:Int)),SK.eq (.pointer (some ⟨X,0,none⟩)),SK.eq (.slice (some ⟨gf,0,none⟩) C1.files.length cf),SK.eq (.int .i64 (j:Int)),SK.eq (.pointer (some ⟨gf,j*15,none⟩)),SK.eq (.pointer (some ⟨gf,j*15+6,none⟩)),SK.eq (.int .i64 (z1:Int)),SK.eq (.int .i64 (off:Int)),SK.eq (.string s),SK.eq (.int .i64 (n:Int)),SK.eq (.int .i64 ((off:Int)+(n:Int))),SK.eq (.int .i64 (max (z1:Int) ((off:Int)+(n:Int)))),SK.eq (.pointer (some ⟨gf,j*15,none⟩)),SK.eq (.pointer (some ⟨gf,j*15+6,none⟩)),SK.any] (by kernel_rfl) (by kernel_rfl) rfl (fun _=>trivial) ?_;refine rP rfl rfl (fun xw hC hd K hK=>?_) (fun v0=>?_)
    ·go_simp;exact hK _ _ hC K_ rfl
    simp only [ly];refine rP rfl rfl (fun xw hC hd K hK=>?_) (fun v1=>?_)
    ·obtain rfl:v0=_:=hd 0 (by kernel_rfl);have hC':Below W8.heap.size W8 xw:=hC;have u0:=(hC'.cell (p:=⟨X,_,none⟩) hlo).trans x0;go_simp;exact hK _ _ hC K_ rfl
    simp only [ly];refine rP rfl rfl (fun xw hC hd K hK=>?_) (fun v2=>?_)
    ·go_simp;exact hK _ _ hC K_ rfl
    simp only [ly];refine rP rfl rfl (fun xw hC hd K hK=>?_) (fun v3=>?_)
    ·go_simp;exact hK _ _ hC K_ rfl
    simp only [ly];refine rP rfl rfl (fun xw hC hd K hK=>?_) (fun v4=>?_)
    ·obtain rfl:v3=_:=hd 3 (by kernel_rfl);have hC':Below W8.heap.size W8 xw:=hC;have u0:=(hC'.cell (p:=⟨X,_,none⟩) hlo).trans x0;go_simp;exact hK _ _ hC K_ rfl
    simp only [ly];refine rP rfl rfl (fun xw hC hd K hK=>?_) (fun v5=>?_)
    ·go_simp;exact hK _ _ hC K_ rfl
    simp only [ly];refine rP rfl rfl (fun xw hC hd K hK=>?_) (fun v6=>?_)
    ·obtain rfl:v4=_:=hd 4 (by kernel_rfl);obtain rfl:v5=_:=hd 5 (by kernel_rfl);go_simp;exact hK _ _ hC K_ rfl
    simp only [ly];refine rP rfl rfl (fun xw hC hd K hK=>?_) (fun v7=>?_)
    ·obtain rfl:v6=_:=hd 6 (by kernel_rfl);go_simp;exact hK _ _ hC K_ rfl
    simp only [ly];refine rP rfl rfl (fun xw hC hd K hK=>?_) (fun v8=>?_)
    ·obtain rfl:v7=_:=hd 7 (by kernel_rfl);have hC':Below W8.heap.size W8 xw:=hC;have u0:=(hC'.cell (p:=⟨gf,_,none⟩) hlg).trans z6;go_simp;exact hK _ _ hC K_ rfl
    simp only [ly];refine rP rfl rfl (fun xw hC hd K hK=>?_) (fun v9=>?_)
    ·go_simp;exact hK _ _ hC K_ rfl
    simp only [ly];refine rP rfl rfl (fun xw hC hd K hK=>?_) (fun v10=>?_)
    ·go_simp;exact hK _ _ hC K_ rfl
    simp only [ly];refine rP rfl rfl (fun xw hC hd K hK=>?_) (fun v11=>?_)
    ·obtain rfl:v10=_:=hd 10 (by kernel_rfl);go_simp;exact hK _ _ hC K_ rfl
    simp only [ly];refine rP rfl rfl (fun xw hC hd K hK=>?_) (fun v12=>?_)
    ·obtain rfl:v9=_:=hd 9 (by kernel_rfl);obtain rfl:v11=_:=hd 11 (by kernel_rfl);go_simp;exact hK _ _ hC K_ (by first | rfl | (show Value.int _ _=Value.int _ _;simp;done) | (show Value.int _ _=Value.int _ _;simp [IntKind.wrap_i64,wrap64];done) | (show Value.int _ _=Value.int _ _;simp [IntKind.wrap_i64];omega))
    simp only [ly];refine rP rfl rfl (fun xw hC hd K hK=>?_) (fun v13=>?_)
    ·obtain rfl:v8=_:=hd 8 (by kernel_rfl);obtain rfl:v12=_:=hd 12 (by kernel_rfl);go_simp;exact hK _ _ hC K_ (by show Value.int _ _=Value.int _ _;congr 1;first | rfl | (split <;> omega))
    simp only [ly];refine rP rfl rfl (fun xw hC hd K hK=>?_) (fun v14=>?_)
    ·obtain rfl:v1=_:=hd 1 (by kernel_rfl);obtain rfl:v2=_:=hd 2 (by kernel_rfl);go_simp;exact hK _ _ hC K_ rfl
    simp only [ly];refine rP rfl rfl (fun xw hC hd K hK=>?_) (fun v15=>?_)
    ·obtain rfl:v14=_:=hd 14 (by kernel_rfl);go_simp;exact hK _ _ hC K_ rfl
    simp only [ly];refine rS (fun xw hC hd K hK=>?_) (fun v16=>?_)
    ·obtain rfl:v15=_:=hd 15 (by kernel_rfl);obtain rfl:v13=_:=hd 13 (by kernel_rfl);have hC':Below W8.heap.size W8 xw:=hC;have HC9:=HC8.out.step hC';obtain ⟨⟨u,hu⟩,hfz⟩:=HC9.files.slot hjf (p:=6) (by omega);go_simp;have hfin:=HC9.putFiles (gb_setCells xw gf (j*15+6) [.int .i64 (max (z1:Int) ((off:Int)+(n:Int)))]) (HC9.files.size HJ1.out _) (by simp);refine hK undef _ ⟨hfin,?_,?_,?_⟩ (KeepS.of_setCell _ _ _ (fun h=>h.2.1 rfl)) trivial
     ·exact (Below.heap_setCell xw ⟨gf,j*15+6,none⟩ _ X (by show X≠gf;omega)).trans (bk_step HO8.out hC')
     ·exact (Below.heap_setCell xw ⟨gf,j*15+6,none⟩ _ (w.heap.size+1) (by show w.heap.size+1≠gf;omega)).trans (bk_step HR8.out hC')
     ·exact bl_set (bl_step HW8.out hC') ⟨gf,j*15+6,none⟩ _ (by show w.heap.size≤gf;omega)
    simp only [ly];refine relWalkA_nil ?_;intro wz hD hG;clear hG;go_wp2;go_meet
    case rel=>exact hD
   case rest=>
    clear x0 x1 x2 x3 x4 x5 x6 z6 z7 z8 z9 hlo hlg HC8 HO8 HR8 HW8;obtain ⟨hC9,hO9,hR9,hW9⟩:=hcut;have HC9:=H_ hC9;have HR9:=H_ hR9;have HW9:=H_ hW9;clear hC9 hR9 hW9;obtain ⟨x0,x1,x2,x3,x4,x5,x6⟩:=cs7 hO9
    go_wp2_with (refine st_ck rfl (.tmp 8) (.tmp 86) rfl rfl (w.heap.size+1) rfl rfl HR9.out rfl ?_)
    show bodyPost Tryz.prog Tryz.f38 _ _ _ _
    refine bodyPost_ret (ck2_res rfl _ _ (w.heap.size+1) _ _ _ _ _ _ _ _ _ _ rfl rfl (setRow_heap _ _ _ _ _ _ HR9.out)) rfl ?_;refine ⟨_,_,_,_,_,_,_,_,_,?_,rfl,((HC9.out.setRow (w.heap.size+1) (#[.slice (some ⟨gf,0,none⟩) C1.files.length cf,.slice (some ⟨gr,0,none⟩) nr cr,.slice P3 n3 r3,.slice P4 n4 r4,.slice (some ⟨gl,0,none⟩) nl cl,.slice (some ⟨gk,0,none⟩) nk ck,.slice P7 n7 r7]:Array Value) (fun hz=>(s1 _ (s3 _ hz).1).2.2 rfl) (by have:=HC9.out.lt;omega)).weak (by omega) (fun z hz=>(s1 z (s3 z hz).1).1) hS).at_,bl_setRow HW9.out (by omega) _⟩;refine ⟨?_,fun h hall=>⟨rfl,C1,y1,?_,HJ1.out,?_⟩⟩
    ·have:=HI1.out.size HJ1.out (sz:=max z1 (off+n)) (by omega);rw [show ((max z1 (off+n):Nat):Int)=max (z1:Int) ((off:Int)+(n:Int)) by omega] at this;exact this
    ·rw [←(HSP.out.2 h).1];exact HC1.out.2
    ·rw [HZ1.out]
end
end Go.Proofs.YthhekebemmckcaaGreatDoor
