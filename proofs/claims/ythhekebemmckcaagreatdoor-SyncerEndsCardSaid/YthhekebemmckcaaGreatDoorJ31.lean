/-
  Lemmas and contracts for the laws of synchronisations (layer 43), part 31; several texts joined by a program.
-/
import Derived.Test.YthhekebemmckcaaGreatDoorJ01
import Derived.Test.YthhekebemmckcaaGreatDoorJ16
import Derived.Test.YthhekebemmckcaaGreatDoorJ25
namespace Go.Proofs.YthhekebemmckcaaGreatDoor
set_option linter.unusedVariables false
set_option linter.unusedSimpArgs false
set_option maxRecDepth 100000
set_option maxHeartbeats 16000000
open Go.RowKit
section
variable {F G Z:Nat}
def RetCk1 (P:Ck→Prop) (S:Nat→Prop) (w:World) (en:Ending) (w':World):Prop:=∃C' a b c d e f g,P C'∧en = .returned (ckV a b c d e f g)∧CkAt w' S a b c d e f g C'∧Below w.heap.size w w'
def PutS (F G Z off n j k:Nat) (C:Ck):Prop:=Inv F G Z C∧∃y,C.files[j]?=some y∧∀(m:Nat) (p:Int),k≤m→(pagesL off n)[m]?=some p→UnOk C j y off n true p
theorem cntI_pos {off n lo:Int}:∀{j:Nat},(∃i:Nat,i<j∧off≤lo+(i:Int)∧lo+(i:Int)<off+n)→0<cntI off n lo j
 | 0,⟨i,h,_⟩=>by omega
 | j+1,⟨i,h,h1,h2⟩=>by
  unfold cntI;have hb:=cntI_bd off n lo j
  by_cases e:i=j
  ·subst e;rw [if_pos ⟨h1,h2⟩];omega
  ·have:=cntI_pos (off:=off) (n:=n) (lo:=lo) (j:=j) ⟨i,by omega,h1,h2⟩
   split <;> omega
theorem touI_pos {o n:Nat} (h1:1≤n) (h2:o+n≤16):touI (o:Int) (n:Int)≠0:=by
 show (if touB (o:Int) (n:Int) 0 then (1:Int) else 0)+(if touB (o:Int) (n:Int) 1 then (2:Int) else 0)≠0
 by_cases ho:o<8
 ·have:touB (o:Int) (n:Int) 0=true:=decide_eq_true (cntI_pos ⟨o,ho,by omega,by omega⟩);rw [this,if_pos rfl]
  split <;> omega
 ·have:touB (o:Int) (n:Int) 1=true:=decide_eq_true (cntI_pos ⟨o - 8,by omega,by omega,by omega⟩);rw [this,if_pos rfl]
  split <;> omega
theorem or3_ne {a b:Int} (ha:0≤a∧a≤3) (hb:0≤b∧b≤3) (hn:b≠0):bits .or .i64 a b≠0:=by
 obtain rfl | rfl | rfl | rfl:a=0∨a=1∨a=2∨a=3:=by omega
 all_goals (obtain rfl | rfl | rfl:b=1∨b=2∨b=3:=by omega) <;> decide
inductive PutN (off n j:Nat) (C0:Ck):Nat→Ck→Prop
 | zero:PutN off n j C0 0 C0
 | step {k i t:Nat} {C:Ck} {x x':Fr} {y:Fl} {l:Lr} {p:Int}:PutN off n j C0 k C→(pagesL off n)[k]?=some p→FrU C i x j y→x.page=p→getR y.c p=(i:Int)+1→x'.file=x.file→x'.page=x.page→x'.writing=x.writing→x'.pg.dirty≠0→C.lists[t]?=some l→PutN off n j C0 (k+1) (accC (putC C i j y x') t l i)
theorem touI_rng (a b:Int):0≤touI a b∧touI a b≤3:=by
 unfold touI setK
 cases touB a b 0 <;> cases touB a b 1 <;> simp
theorem writeG_ok {p:Pg} (h:PgOk p) {o:Nat} {s:ByteArray} (hr:o+s.size≤16):PgOk (writeG p o s):=by
 obtain ⟨d,v,y⟩:=p;obtain ⟨h1,h2,h3,h4⟩:=h
 dsimp only at h1 h2 h3 h4
 have ht:=touI_rng (o:Int) (s.size:Int);refine ⟨?_,or3 h2 ht,or3 h3 ht,?_⟩
 ·show (catG d s o).size=16
  unfold catG;rw [ByteArray.size_append,ByteArray.size_append,ByteArray.size_extract,ByteArray.size_extract];omega
 ·show bits .andNot .i64 (bits .or .i64 y (touI o s.size)) (bits .or .i64 v (touI o s.size))=0
  generalize touI o s.size=t at *;obtain rfl | rfl | rfl | rfl:v=0∨v=1∨v=2∨v=3:=by omega
  all_goals (obtain rfl | rfl | rfl | rfl:y=0∨y=1∨y=2∨y=3:=by omega)
  all_goals (obtain rfl | rfl | rfl | rfl:t=0∨t=1∨t=2∨t=3:=by omega)
  all_goals first
   | decide
   | exact absurd h4 (by decide)
theorem PutS.next {off n j k:Nat} {C:Ck} (h:PutS F G Z off n j k C) {i t:Nat} {x x':Fr} {y:Fl} {l:Lr} {p:Int} (hk:(pagesL off n)[k]?=some p) (hu:FrU C i x j y) (hxp:x.page=p) (h1:FrOk x') (h2:x'.file=x.file) (h3:x'.page=x.page) (h4:x'.tenant=x.tenant) (hl:C.lists[t]?=some l):PutS F G Z off n j (k+1) (accC (putC C i j y x') t l i):=by
 obtain ⟨hI,y',hy',hm⟩:=h;obtain rfl:y'=y:=Option.some.inj (hy'.symm.trans hu.fl);have hP:=hI.put hu h1 h2 h3 h4 rfl (hI.file j y' hy') C.ptes hI.pok;refine ⟨Inv.acc hP hl,{y' with c:=markC y'.c x'.page (x'.pg.dirty != 0) (x'.writing != 0)},get_self hy',fun m q hkm hq=>?_⟩
 obtain ⟨i',u,g1,g2,g3,g4⟩:=hm m q (by omega) hq;obtain ⟨j0,y0,hu0,hv⟩:=hI.used hu.fr (by rw [hu.ix];omega);obtain ⟨_,rfl,rfl⟩:=hu.eq hu0;obtain ⟨hi,hc⟩:=getR_pos (c:=y0.c) (p:=x.page) (by rw [hv];omega);have hne:i'≠i:=fun e=>by
  subst e;obtain rfl:u=x:=Option.some.inj (g2.fr.symm.trans hu.fr);rw [hxp] at g3;obtain ⟨a1,e1,e2⟩:=pagesL_mem (List.mem_of_getElem? hk);have hkl:=(g_l hk);have hml:=(g_l hq);rw [pagesL_len] at hkl hml;rw [pagesL_get _ _ _ hkl] at hk;rw [pagesL_get _ _ _ hml] at hq;injection hk with hk
  injection hq with hq
  omega
 refine ⟨i',u,?_,⟨get_set hne g2.fr,get_self hy',g2.ix,g2.ok⟩,g3,g4⟩
 show getR (markC _ _ _ _) q=_
 rw [h3,getR_markC hi hc];exact g1
theorem cput_w (C0:Ck) (j off:Nat) (s:ByteArray) (a b c d e f g:Value) (S:Nat→Prop) (w:World) (h:CkAt w S a b c d e f g C0) (hp:PutS F G Z off s.size j 0 C0) (h1:1≤s.size) (h2:off+s.size≤128) (hS:∀z,w.heap.size≤z→S z) :
  Calls Tryz.prog 79 #[ckV a b c d e f g,.int .i64 j,.int .i64 off,.string s] w (RetCk1 (fun C'=>PutS F G Z off s.size j ((off+s.size+15) / 16 - off / 16) C'∧PutN off s.size j C0 ((off+s.size+15) / 16 - off / 16) C') S w):=by
 obtain ⟨S1,s1,s2,s3⟩:=s1set hS;replace h:=h.weak s3;clear s3;obtain ⟨A1,m1,c1,A2,m2,c2,A3,m3,c3,A4,m4,c4,A5,m5,c5,A6,m6,c6,A7,m7,c7,rfl,rfl,rfl,rfl,rfl,rfl,rfl⟩:=CkAt.caps h;obtain ⟨n,hn⟩:∃n,n=s.size:=⟨_,rfl⟩;rw [←hn] at h1 h2 hp ⊢;have HN:=H_ hn;have hpg:=fun w' (hz:w.heap.size+1<w'.heap.size)=>pages_w off n (fun z=>w.heap.size+1<z) w' h1 h2 (fun b hb=>by omega);have hprt:=fun (p:Nat) (hp:p<8) w'=>part_w (p:Int) (off:Int) (n:Int) w' ⟨by omega,by omega⟩ ⟨by omega,by omega⟩ ⟨by omega,by omega⟩;have hlen:(s.size:Int)=(n:Int):=by omega
 have H:=H_ h;have HPS:=H_ hp;clear h hp hn;go_enter Tryz.func79,Tryz.ntmps79
 go_upto_region 1 with fail
 generalize hW9:(w.alloc _).alloc _=W;obtain ⟨HX,HR,HW,HZ⟩:=two_box hW9;clear hW9 HZ;have hz0:w.heap.size+1<W.heap.size:=bk_lt HR.out
 go_upto_region 2 with (first
  | (go_at_call 84;go_loud (refine CM (hpg _ hz0) ?_);rintro e w3 ⟨pv,rfl,hpv,hb3⟩;have HX3:=bkh HX hb3;have HR3:=bkh HR hb3;have HW3:=blh HW hb3;have HPV:=H_ (hpv.old);clear hpv hb3)
  | fail)
 clear hpg HX HR HW;obtain ⟨B,hB⟩:∃B,B=w3.heap.size:=⟨_,rfl⟩;rw [←hB] at HPV;have hB1:w.heap.size+1<B:=by rw [hB];exact bk_lt HR3.out
 obtain ⟨cnt,hcnt⟩:∃cnt,cnt=(off+n+15) / 16 - off / 16:=⟨_,rfl⟩;have hpl:(pagesL off n).length=cnt:=by rw [pagesL_len,hcnt]
 have hc9:cnt≤9:=by omega
 obtain ⟨A8,cap8,hpv8,_,_⟩:=HPV.out.form;rw [hpl] at hpv8;subst hpv8;have HB:=H_ hB;have HCN:=H_ hcnt;clear hB hcnt;go_wp2
 go_loopw [10] (fun s10 wx=>∃(k:Nat) (C:Ck) (a b c d e f g:Value),s10 = .int .i64 k∧k≤cnt∧PutS F G Z off n j k C∧PutN off n j C0 k C∧wx.heap[w.heap.size]?=some (.cells #[a,b,c,d,e,f,g] 30 (0,0))∧CkAt wx S1 a b c d e f g C∧LA IntR wx (fun z=>w.heap.size+1<z∧z<B) (.slice A8 cnt cap8) (pagesL off n)∧Below w.heap.size w wx∧B≤wx.heap.size∧wx.heap[w.heap.size+1]?=some (oCZ)) (fun s10 _=>100 - (intOf s10).toNat)
 case atStart=>exact ⟨0,C0,_,_,_,_,_,_,_,rfl,by omega,HPS.out,.zero,HX3.out,H.out.step HW3.out,HPV.out,HW3.out,by rw [HB.out];exact Nat.le_refl _,HR3.out⟩
 case round=>
  clear HPV HW3 HX3 HR3 H HPS;obtain ⟨k,C,a,b,c,d,e,f,g,rfl,hk,hps,hpn,hX,hC,hp,hb,hBs,hR⟩:=hrel;have HPN:=H_ hpn;clear hpn;obtain ⟨A1,m1,c1,rfl⟩:=hC.files.cap;obtain ⟨A2,cr0,rfl,q3,q4⟩:=hC.frames.form;obtain ⟨A3,m3,c3,rfl⟩:=hC.zones.cap;obtain ⟨A4,m4,c4,rfl⟩:=hC.groups.cap;obtain ⟨A5,m5,c5,rfl⟩:=hC.lists.cap;obtain ⟨A6,m6,c6,rfl⟩:=hC.clocks.cap;obtain ⟨A7,m7,c7,rfl⟩:=hC.ptes.cap;have HP:=H_ hp;have HW:=H_ hb;have HX:=H_ hX;have HR:=H_ hR;have HC:=H_ hC;have HS:=H_ hps;have hbX:=bk_lt hX;have hbR:=bk_lt hR;obtain ⟨x0,x1,x2,x3,x4,x5,x6⟩:=cs7 hX;clear hb hX hR
  by_cases hlt:k<cnt
  ·have hget:=pagesL_get off n k (by have:=HCN.out;omega);have hrg:=pg_range (off:=off) (n:=n) (k:=k) (by have:=HCN.out;omega) h2;obtain ⟨p,hpe⟩:∃p:Nat,p=off / 16+k:=⟨_,rfl⟩;rw [←hpe] at hget hrg;obtain ⟨r1,r2,r3⟩:=hrg;have HGET:=H_ hget;obtain ⟨hI,y,hj,hun⟩:=hps;obtain ⟨i,x,hgi,hU,hxp,hn0⟩:=hun k p (Nat.le_refl _) hget;obtain ⟨at',ct,fr,hpt,hac,hfr,hfc,hfrI⟩:∃at' ct fr:Nat,partI p off n=((at':Int),(ct:Int))∧at'+ct≤16∧1≤ct∧fr+ct≤n∧(p:Int)*16+(at':Int) - (off:Int)=(fr:Int):=by
    by_cases ho:off≤p*16
    ·refine ⟨0,(min (off+n) ((p+1)*16)) - p*16,p*16 - off,?_,by omega,by omega,by omega,by omega⟩;unfold partI;rw [Int.max_eq_right (by omega)];refine Prod.ext ?_ ?_ <;> (dsimp only;omega)
    ·refine ⟨off - p*16,(min (off+n) ((p+1)*16)) - off,0,?_,by omega,by omega,by omega,by omega⟩;unfold partI;rw [Int.max_eq_left (by omega)];refine Prod.ext ?_ ?_ <;> (dsimp only;omega)
   have hprt':∀w',Calls Tryz.prog 125 #[.int .i64 (p:Int),.int .i64 (off:Int),.int .i64 (n:Int)] w' (RetQ (.tuple #[.int .i64 (at':Int),.int .i64 (ct:Int)]) w'):=fun w'=>by
    have:=hprt p r3 w';rw [hpt] at this;exact this
   rw [hpt] at hn0;obtain ⟨sub,hsub⟩:∃sub,sub=s.extract fr (fr+ct):=⟨_,rfl⟩;have hss:sub.size=ct:=by rw [hsub,ByteArray.size_extract];have:=HN.out;omega
   have hwr:=fun w'=>pwrite_w x.pg.data x.pg.valid x.pg.dirty at' sub w' hU.ok.pg (by rw [hss];omega) (by rw [hss];exact hn0);have HSUB:=H_ hsub;obtain ⟨b8,o8,cap9,hv8,_,_,hb8,hb8s,l0⟩:=IL.cell hp hget;injection hv8 with e81 e82 e83
   subst e81 e82 e83;obtain ⟨bb,o,rfl,hbl,y0,y1,y2,y3,y4,y5,y6,y7,y8⟩:=FrA.cells hC.frames hU.fr;have hil:=(g_l hU.fr);have i2:(i:Int)<(C.frames.length:Int):=by omega
   have hl2:C.frames.length≤100:=by have:=hI.nr;omega
   have hfq:∀z,Calls Tryz.prog 23 #[ckV (.slice A1 m1 c1) (.slice (some ⟨bb,o,none⟩) C.frames.length cr0) (.slice A3 m3 c3) (.slice A4 m4 c4) (.slice A5 m5 c5) (.slice A6 m6 c6) (.slice A7 m7 c7),.int .i64 j,.int .i64 p] (ext wr z) (fun e w''=>e = .returned (.tuple #[.int .i64 ((i:Int)+1),.bool true])∧Below (ext wr z).heap.size (ext wr z) w''):=fun z=>by
    have:=find_w40 C j y p _ _ _ _ _ _ _ S1 (ext wr z) (hC.step (below_ext wr z)) hj;unfold RetFd fdV at this;rw [hgi,if_neg (by omega)] at this;exact this
   have HU:=H_ hU;have HI:=H_ hI;have HXP:=H_ hxp;have HGI:=H_ hgi;have HJ:=H_ hj;have xe:=ext_cell wr;clear hget hpe hp r1 r2 hgi hU hxp hn0 hpt hun hsub hI hj hC hss
   go_upto_region 5 with fail
   refine wp_region_ext (by kernel_rfl) (by kernel_rfl) ?_
   repeat (go_big_quiet_step ((exact ext_call (hfq _))))
   refine wpQuiet_nil ?_;rintro w' ⟨z,rfl⟩;have HWz:=H_ (bl_step HW.out (below_ext wr z));have HXz:=H_ (bk_step HX.out (below_ext wr z));have HRz:=H_ (bk_step HR.out (below_ext wr z));have HPz:=H_ (HP.out.step (below_ext wr z));have HCz:=H_ (HC.out.step (below_ext wr z));have hBz:B≤(ext wr z).heap.size:=Nat.le_trans hBs (below_ext wr z).size;have hbz:bb<(ext wr z).heap.size:=Nat.lt_of_lt_of_le hbl (below_ext wr z).size;replace y0:(ext wr z).cell? _=_:=(cell_kept ((below_ext wr z).block _ hbl)).trans y0;replace y1:(ext wr z).cell? _=_:=(cell_kept ((below_ext wr z).block _ hbl)).trans y1;replace y2:(ext wr z).cell? _=_:=(cell_kept ((below_ext wr z).block _ hbl)).trans y2;replace y3:(ext wr z).cell? _=_:=(cell_kept ((below_ext wr z).block _ hbl)).trans y3;replace y4:(ext wr z).cell? _=_:=(cell_kept ((below_ext wr z).block _ hbl)).trans y4;replace y5:(ext wr z).cell? _=_:=(cell_kept ((below_ext wr z).block _ hbl)).trans y5;replace y6:(ext wr z).cell? _=_:=(cell_kept ((below_ext wr z).block _ hbl)).trans y6;replace y7:(ext wr z).cell? _=_:=(cell_kept ((below_ext wr z).block _ hbl)).trans y7;replace y8:(ext wr z).cell? _=_:=(cell_kept ((below_ext wr z).block _ hbl)).trans y8;replace l0:(ext wr z).cell? _=_:=(cell_kept ((below_ext wr z).block _ hb8)).trans l0;clear xe x0 x1 x2 x3 x4 x5 x6 hfq HW HX HR HP HC hb8 hbl;generalize ext wr z=V at HWz HXz HRz HPz HCz y0 y1 y2 y3 y4 y5 y6 y7 y8 l0 hBz hbz;obtain ⟨x0,x1,x2,x3,x4,x5,x6⟩:=cs7 HXz.out
   go_upto_region 8 with (go_at_call 125;go_loud (refine CM (hprt' _) ?_);rintro e w4 ⟨rfl,rfl⟩)
   have HF5:=H_ (heap_at_new V (oF x) V.heap.size rfl);have HX5:=H_ (bk_alloc HXz.out (oF x));have HR5:=H_ (bk_alloc HRz.out (oF x));have HW5:=H_ (bl_alloc HWz.out (oF x));have HC5:=H_ ((HCz.out.weak (S':=fun z=>S1 z∧z<V.heap.size) (fun z hz h=>⟨h,hz⟩)).step (bl_alloc (Below.refl V.heap.size V) (oF x)));have HP5:=H_ (HPz.out.alloc (oF x));have hl5:(V.alloc (oF x)).cell? ⟨b8,o8+k,none⟩=some (.int .i64 (p:Int)):=by
    have:=(bl_alloc (Below.refl V.heap.size V) (oF x)).cell (p:=⟨b8,o8+k,none⟩) (by show b8<V.heap.size;omega);exact this.trans l0
   have hz5:V.heap.size<(V.alloc (oF x)).heap.size:=by simp
   generalize V.alloc (oF x)=W5 at HF5 HX5 HR5 HW5 HC5 HP5 hl5 hz5;clear x0 x1 x2 x3 x4 x5 x6 y0 y1 y2 y3 y4 y5 y6 y7 y8 l0 HXz HRz HWz HPz HCz;obtain ⟨f0,f1,f2,f3,f4,f5,f6,f7,f8⟩:=cs9 HF5.out;have g1':(fr:Int)≤(fr:Int)+(ct:Int):=by omega
   have g2':(fr:Int)+(ct:Int)≤(n:Int):=by omega
   have g3':(0:Int)≤(fr:Int)+(ct:Int):=by omega
   have g4':((fr:Int)+(ct:Int)).toNat=fr+ct:=by omega
   have g5':s.extract fr (fr+ct)=sub:=HSUB.out.symm
   go_upto_region 9 with fail
   have hlf:=bk_lt HF5.out;have hVz:w.heap.size+1<V.heap.size:=by omega
   go_cut [] (fun wx=>wx.heap[V.heap.size]?=some (.cells #[.int .i64 x.file,.int .i64 x.page,.string (writeG x.pg at' sub).data,.int .i64 (writeG x.pg at' sub).valid,.int .i64 (writeG x.pg at' sub).dirty,.int .i64 x.tenant,.int .i64 x.holds,.int .i64 x.reading,.int .i64 x.writing] 55 (0,0))∧wx.heap[w.heap.size]?=some (.cells #[.slice A1 m1 c1,.slice (some ⟨bb,o,none⟩) C.frames.length cr0,.slice A3 m3 c3,.slice A4 m4 c4,.slice A5 m5 c5,.slice A6 m6 c6,.slice A7 m7 c7] 30 (0,0))∧wx.heap[w.heap.size+1]?=some (oCZ)∧CkAt wx (fun z=>S1 z∧z<V.heap.size) (.slice A1 m1 c1) (.slice (some ⟨bb,o,none⟩) C.frames.length cr0) (.slice A3 m3 c3) (.slice A4 m4 c4) (.slice A5 m5 c5) (.slice A6 m6 c6) (.slice A7 m7 c7) C∧LA IntR wx (fun z=>w.heap.size+1<z∧z<B) (.slice (some ⟨b8,o8,none⟩) (pagesL off n).length cap8) (pagesL off n)∧Below w.heap.size w wx∧V.heap.size<wx.heap.size)
   case first=>
    refine wp_region_sk (S:=fun _=>False) 84 14 (inL [0,1,2,3,4,5,6,7,8,9,10,11,13]) (fun wx=>wx.heap[V.heap.size]?=some (.cells #[.int .i64 x.file,.int .i64 x.page,.string (writeG x.pg at' sub).data,.int .i64 (writeG x.pg at' sub).valid,.int .i64 (writeG x.pg at' sub).dirty,.int .i64 x.tenant,.int .i64 x.holds,.int .i64 x.reading,.int .i64 x.writing] 55 (0,0))∧wx.heap[w.heap.size]?=some (.cells #[.slice A1 m1 c1,.slice (some ⟨bb,o,none⟩) C.frames.length cr0,.slice A3 m3 c3,.slice A4 m4 c4,.slice A5 m5 c5,.slice A6 m6 c6,.slice A7 m7 c7] 30 (0,0))∧wx.heap[w.heap.size+1]?=some (oCZ)∧CkAt wx (fun z=>S1 z∧z<V.heap.size) (.slice A1 m1 c1) (.slice (some ⟨bb,o,none⟩) C.frames.length cr0) (.slice A3 m3 c3) (.slice A4 m4 c4) (.slice A5 m5 c5) (.slice A6 m6 c6) (.slice A7 m7 c7) C∧LA IntR wx (fun z=>w.heap.size+1<z∧z<B) (.slice (some ⟨b8,o8,none⟩) (pagesL off n).length cap8) (pagesL off n)∧Below w.heap.size w wx∧V.heap.size<wx.heap.size) [SK.eq (.pointer (some ⟨V.heap.size,2,none⟩)),SK.eq (.agg #[.string x.pg.data,.int .i64 x.pg.valid,.int .i64 x.pg.dirty]),SK.eq (.int .i64 (at':Int)),SK.eq (.string s),SK.eq (.int .i64 (fr:Int)),SK.eq (.int .i64 (fr:Int)),SK.eq (.int .i64 (ct:Int)),SK.eq (.int .i64 ((fr:Int)+(ct:Int))),SK.eq (.string sub),SK.eq (.tuple #[pgV (writeG x.pg at' sub).data (writeG x.pg at' sub).valid (writeG x.pg at' sub).dirty,.int .i64 0]),SK.eq (.tuple #[pgV (writeG x.pg at' sub).data (writeG x.pg at' sub).valid (writeG x.pg at' sub).dirty,.int .i64 0]),SK.eq (pgV (writeG x.pg at' sub).data (writeG x.pg at' sub).valid (writeG x.pg at' sub).dirty),SK.eq (.int .i64 0),SK.eq (.pointer (some ⟨V.heap.size,2,none⟩)),SK.any] (by kernel_rfl) (by kernel_rfl) rfl (fun _=>trivial) ?_;refine rP rfl rfl (fun xw hC hd K hK=>?_) (fun v0=>?_)
    ·go_simp;exact hK _ _ hC K_ rfl
    simp only [ly];refine rP rfl rfl (fun xw hC hd K hK=>?_) (fun v1=>?_)
    ·obtain rfl:v0=_:=hd 0 (by kernel_rfl);have hC':Below W5.heap.size W5 xw:=hC;have u0:=(hC'.cell (p:=⟨V.heap.size,_,none⟩) hlf).trans f2;have u1:=(hC'.cell (p:=⟨V.heap.size,_,none⟩) hlf).trans f3;have u2:=(hC'.cell (p:=⟨V.heap.size,_,none⟩) hlf).trans f4;go_simp;exact hK _ _ hC K_ rfl
    simp only [ly];refine rP rfl rfl (fun xw hC hd K hK=>?_) (fun v2=>?_)
    ·go_simp;exact hK _ _ hC K_ rfl
    simp only [ly];refine rP rfl rfl (fun xw hC hd K hK=>?_) (fun v3=>?_)
    ·go_simp;exact hK _ _ hC K_ rfl
    simp only [ly];refine rP rfl rfl (fun xw hC hd K hK=>?_) (fun v4=>?_)
    ·go_simp;exact hK _ _ hC K_ rfl
    simp only [ly];refine rP rfl rfl (fun xw hC hd K hK=>?_) (fun v5=>?_)
    ·go_simp;exact hK _ _ hC K_ rfl
    simp only [ly];refine rP rfl rfl (fun xw hC hd K hK=>?_) (fun v6=>?_)
    ·go_simp;exact hK _ _ hC K_ rfl
    simp only [ly];refine rP rfl rfl (fun xw hC hd K hK=>?_) (fun v7=>?_)
    ·obtain rfl:v5=_:=hd 5 (by kernel_rfl);obtain rfl:v6=_:=hd 6 (by kernel_rfl);go_simp;exact hK _ _ hC K_ (by first | rfl | (show Value.int _ _=Value.int _ _;simp;done) | (show Value.int _ _=Value.int _ _;simp [IntKind.wrap_i64,wrap64];done) | (show Value.int _ _=Value.int _ _;simp [IntKind.wrap_i64];omega))
    simp only [ly];refine rP rfl rfl (fun xw hC hd K hK=>?_) (fun v8=>?_)
    ·obtain rfl:v3=_:=hd 3 (by kernel_rfl);obtain rfl:v4=_:=hd 4 (by kernel_rfl);obtain rfl:v7=_:=hd 7 (by kernel_rfl);go_simp;exact hK _ _ hC K_ rfl
    simp only [ly];refine rP rfl rfl (fun xw hC hd K hK=>?_) (fun v9=>?_)
    ·obtain rfl:v1=_:=hd 1 (by kernel_rfl);obtain rfl:v2=_:=hd 2 (by kernel_rfl);obtain rfl:v8=_:=hd 8 (by kernel_rfl);have hC':Below W5.heap.size W5 xw:=hC;go_simp
     go_at_call 127
     refine (hwr xw).mono ?_;rintro e w1 ⟨rfl,hb⟩;exact hK _ _ (bl_step hC' hb) (KeepS.of_below hb) rfl
    simp only [ly];refine rP rfl rfl (fun xw hC hd K hK=>?_) (fun v10=>?_)
    ·obtain e:=hd 9 (by kernel_rfl);obtain rfl:v9=_:=e;go_simp;exact hK _ _ hC K_ rfl
    simp only [ly];refine rP rfl rfl (fun xw hC hd K hK=>?_) (fun v11=>?_)
    ·obtain e:=hd 10 (by kernel_rfl);obtain rfl:v10=_:=e;go_simp;exact hK _ _ hC K_ rfl
    simp only [ly];refine rA rfl (fun w=>KeepS.refl w) (fun xw hd K hK=>?_) (fun v12=>?_)
    ·obtain e:=hd 10 (by kernel_rfl);obtain rfl:v10=_:=e;go_simp;exact hK _ rfl
    simp only [ly];refine rP rfl rfl (fun xw hC hd K hK=>?_) (fun v13=>?_)
    ·go_simp;exact hK _ _ hC K_ rfl
    simp only [ly];refine rS (fun xw hC hd K hK=>?_) (fun v14=>?_)
    ·obtain rfl:v13=_:=hd 13 (by kernel_rfl);obtain e:=hd 11 (by kernel_rfl);obtain rfl:v11=_:=e;have hC':Below W5.heap.size W5 xw:=hC;have HF6:=bk_step HF5.out hC';have hth:=there_pg HF6;refine wp_of_list (ops:=#[]) rfl (wpList_store_mid rfl 53 (.tmp 76) (.tmp 74) rfl V.heap.size 2 #[.string (writeG x.pg at' sub).data,.int .i64 (writeG x.pg at' sub).valid,.int .i64 (writeG x.pg at' sub).dirty] rfl rfl hth pg_size (pg_one _ _ _) ?_);refine hK undef _ ⟨fr_setPg HF6,?_,?_,?_,?_,?_,?_⟩ (KeepS.of_setCells _ _ _ _ (fun h=>h)) trivial
     ·exact (heap_setCells V.heap.size _ 2 xw w.heap.size (by omega)).trans (bk_step HX5.out hC')
     ·exact (heap_setCells V.heap.size _ 2 xw (w.heap.size+1) (by omega)).trans (bk_step HR5.out hC')
     ·exact (HC5.out.step hC').kept (KeepS.of_setCells _ _ _ _ (fun h=>absurd h.2 (Nat.lt_irrefl _)))
     ·exact (HP5.out.step hC').kept (KeepS.of_setCells _ _ _ _ (fun h=>by have:=h.2;omega))
     ·exact bl_setCells (bl_step HW5.out hC') (by omega) _ _
     ·rw [setCells_size];exact Nat.lt_of_lt_of_le hz5 hC'.size
    simp only [ly];refine relWalkA_nil ?_;intro wz hD hG;clear hG;go_wp2;go_meet
    case rel=>exact hD
   case rest=>
    clear f0 f1 f2 f3 f4 f5 f6 f7 f8 HF5 HX5 HR5 HW5 HC5 HP5 hl5 hz5 hlf;obtain ⟨hF6,hX6,hR6,hC6,hP6,hW6,hz6⟩:=hcut;have HX6:=H_ hX6;have HR6:=H_ hR6;have HC6:=H_ hC6;have HP6:=H_ hP6;have HW6:=H_ hW6;obtain ⟨x0,x1,x2,x3,x4,x5,x6⟩:=cs7 hX6;obtain ⟨f0,f1,f2,f3,f4,f5,f6,f7,f8⟩:=cs9 hF6;have hss2:sub.size=ct:=by have:=HSUB.out;rw [this,ByteArray.size_extract];have:=HN.out;omega
    obtain ⟨t,ht⟩:∃t:Nat,x.tenant=t:=⟨x.tenant.toNat,by have:=HU.out.ok.tenant;omega⟩;have htl:t<C.lists.length:=by have:=HI.out.ten i x HU.out.fr;have:=HI.out.nl;omega
    obtain ⟨l,hlt'⟩:∃l,C.lists[t]?=some l:=⟨_,List.getElem?_eq_getElem htl⟩;have hxk:FrOk ⟨x.file,x.page,writeG x.pg at' sub,x.tenant,x.holds,x.reading,x.writing⟩:=⟨HU.out.ok.page,HU.out.ok.tenant,writeG_ok HU.out.ok.pg (by have:=HSUB.out;rw [this,ByteArray.size_extract];have:=HN.out;omega),HU.out.ok.holds,HU.out.ok.reading,HU.out.ok.writing⟩;have HIP:=H_ (HI.out.put HU.out hxk rfl rfl rfl rfl (HI.out.file j y HU.out.fl) C.ptes HI.out.pok);have HDN:=H_ (show (writeG x.pg at' sub).dirty≠0 from or3_ne HU.out.ok.pg.d (touI_rng _ _) (touI_pos (by rw [hss2];exact hfr) (by rw [hss2];omega)));have HT:=H_ ht;have HLT:=H_ hlt';have HXK:=H_ hxk;have hi64:i<64:=by have:=HI.out.nr;omega
    have hput:=put_w40 C i j ⟨x.file,x.page,writeG x.pg at' sub,x.tenant,x.holds,x.reading,x.writing⟩ y _ _ _ _ _ _ _ S1 wc (HC6.out.weak (fun z _ h=>h.1)) HI.out.ok hil HU.out.fl HU.out.ix (fun z hz=>s2 z (by omega));have hzc:w.heap.size+1<wc.heap.size:=by omega
    clear hX6 hR6 hC6 hP6 hW6 hF6 ht hlt' hxk
    go_wp2_with (first
     | (go_at_call 90;go_loud (with_reducible refine CM hput ?_);rintro e w7 ⟨gf,nf,cf,gr,nr,cr,c',d',gl,nl,cl,gk,nk,ck,g',rfl,hc7,hb7⟩;have HC7:=H_ hc7;have hz7:=hb7.size;have HB7:=H_ hb7;clear hc7 hb7)
     | (go_at_call 101;go_loud (refine CM (access_w (putC C i j y ⟨x.file,x.page,writeG x.pg at' sub,x.tenant,x.holds,x.reading,x.writing⟩) i t ⟨x.file,x.page,writeG x.pg at' sub,x.tenant,x.holds,x.reading,x.writing⟩ l _ _ _ _ _ _ _ S1 w7 HC7.out.at_ HIP.out.ok (get_self HU.out.fr) HT.out HLT.out (HI.out.lok t l HLT.out) hi64 (fun z hz=>s2 z (by omega))) ?_);rintro e w8 ⟨gf,nf,cf,gr,nr,cr,c',d',gl,nl,cl,gk,nk,ck,g',rfl,hc8,hb8⟩;obtain ⟨P3,n3,r3,rfl⟩:=hc8.zones.cap;obtain ⟨P4,n4,r4,rfl⟩:=hc8.groups.cap;obtain ⟨P7,n7,r7,rfl⟩:=hc8.ptes.cap;have HC8:=H_ hc8;have HB8:=H_ hb8;have HX8:=H_ (bk_step (bk_step HX6.out HB7.out) hb8);clear hc8 hb8)
     | (refine st_ck rfl (.tmp 4) (.tmp 82) rfl rfl (w.heap.size) rfl rfl HX8.out rfl ?_))
    go_roundw
    case rel=>
     exact ⟨k+1,accC (putC C i j y ⟨x.file,x.page,writeG x.pg at' sub,x.tenant,x.holds,x.reading,x.writing⟩) t l i,_,_,_,_,_,_,_,by go_num,by omega,HS.out.next HGET.out HU.out HXP.out HXK.out rfl rfl rfl HLT.out,.step HPN.out HGET.out HU.out HXP.out HGI.out rfl rfl rfl HDN.out HLT.out,setRow_heap _ _ _ _ _ _ HX8.out,HC8.out.at_.kept (KeepS.of_setRow _ _ _ (fun hz=>(s1 _ hz).2.1 rfl)),((HP6.out.step HB7.out).step HB8.out).kept (KeepS.of_setRow _ _ _ (fun hz=>by have:=hz.1;omega)),bl_setRow (bl_step (bl_step HW6.out HB7.out) HB8.out) (Nat.le_refl _) _,by have:=HB8.out.size;simp [World.setRow];omega,(setRow_other _ _ _ _ (by omega)).trans (bk_step (bk_step HR6.out HB7.out) HB8.out)⟩
    case measure=>simp [intOf];omega
  ·obtain rfl:k=cnt:=by omega
   go_wp2_with (refine st_ck rfl (.tmp 8) (.tmp 83) rfl rfl (w.heap.size+1) rfl rfl HR.out rfl ?_)
   show bodyPost Tryz.prog Tryz.f79 _ _ _ _
   refine bodyPost_ret (ck_res rfl _ _ (w.heap.size+1) _ _ _ _ _ _ _ _ _ rfl (setRow_heap _ _ _ _ _ _ HR.out)) rfl ?_;exact ⟨C,_,_,_,_,_,_,_,by show PutS _ _ _ _ _ _ _ _∧PutN _ _ _ _ _ _;rw [←HCN.out];exact ⟨HS.out,HPN.out⟩,rfl,(HC.out.kept (KeepS.of_setRow _ _ _ (fun hz=>(s1 _ hz).2.2 rfl))).weak (fun z _ hz=>(s1 z hz).1),bl_setRow HW.out (by omega) _⟩
end
end Go.Proofs.YthhekebemmckcaaGreatDoor
