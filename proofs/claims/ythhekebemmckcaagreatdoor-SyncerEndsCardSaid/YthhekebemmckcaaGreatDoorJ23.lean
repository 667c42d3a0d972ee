/-
  Lemmas and contracts for the laws of synchronisations (layer 43), part 23; several texts joined by a program.
-/
import Derived.Test.YthhekebemmckcaaGreatDoorJ01
import Derived.Test.YthhekebemmckcaaGreatDoorJ02
import Derived.Test.YthhekebemmckcaaGreatDoorJ16
import Derived.Test.YthhekebemmckcaaGreatDoorJ22
namespace Go.Proofs.YthhekebemmckcaaGreatDoor
set_option linter.unusedVariables false
set_option linter.unusedSimpArgs false
set_option maxRecDepth 100000
set_option maxHeartbeats 16000000
open Go.RowKit
section
theorem LlA.cells {w:World} {S:Nat→Prop} {A:Option Addr} {n cap:Nat} {L:List Lr} (h:LA LrR w S (.slice A n cap) L) {i:Nat} {x:Lr} (hi:L[i]?=some x):∃b o A1 n1 c1 A2 n2 c2 A3 n3 c3,A=some ⟨b,o,none⟩∧n=L.length∧b<w.heap.size∧LrA w S (.slice A1 n1 c1) (.slice A2 n2 c2) (.slice A3 n3 c3) x∧
  w.cell? ⟨b,o+i*3,none⟩=some (.slice A1 n1 c1)∧w.cell? ⟨b,o+i*3+1,none⟩=some (.slice A2 n2 c2)∧w.cell? ⟨b,o+i*3+2,none⟩=some (.slice A3 n3 c3):=by
 obtain ⟨b,o,cap',r,hv,c1,c2,hb,hS,hp,hc⟩:=h.at_ hi;injection hv with e1 e2 _
 obtain ⟨v1,v2,v3,rfl,hA⟩:=hp;obtain ⟨A1,n1,c1',rfl⟩:=hA.1.cap;obtain ⟨A2,n2,c2',rfl⟩:=hA.2.1.cap;obtain ⟨A3,n3,c3',rfl⟩:=hA.2.2.cap;exact ⟨b,o,A1,n1,c1',A2,n2,c2',A3,n3,c3',e1,e2,hb,hA,hc 0 _ rfl,hc 1 _ rfl,hc 2 _ rfl⟩
def frNo:Fr:=⟨-1,0,⟨⟨#[]⟩,0,0⟩,0,0,0,0⟩
def SK.tr2 (T:Nat→Prop) (d:Cn) (err:Int) {S:Nat→Prop} (hT:∀z,T z→S z):SK S:=⟨fun v w=>∃(h:Nat) (A:Option Addr) (cap:Nat),v = .tuple #[trV h A (cano h d).kids.length cap (cano h d).val (cano h d).marks,.int .i64 err]∧TreeOk h d∧(cano h d).kids.length≤cap∧NK w T A (cano h d).kids,fun v w w' hb ⟨h,A,cap,h1,h2,h3,h4⟩=>⟨h,A,cap,h1,h2,h3,h4.kept hb.1 (fun z hz=>hb.2 z (hT z hz))⟩⟩
def SK.tr1 (T:Nat→Prop) (d:Cn) {S:Nat→Prop} (hT:∀z,T z→S z):SK S:=⟨fun v w=>∃(h:Nat) (A:Option Addr) (cap:Nat),v=trV h A (cano h d).kids.length cap (cano h d).val (cano h d).marks∧TreeOk h d∧(cano h d).kids.length≤cap∧NK w T A (cano h d).kids,fun v w w' hb ⟨h,A,cap,h1,h2,h3,h4⟩=>⟨h,A,cap,h1,h2,h3,h4.kept hb.1 (fun z hz=>hb.2 z (hT z hz))⟩⟩
def goneC (C:Ck) (i j t k:Nat) (x:Fr) (y:Fl) (l:Lr) (gr:Gr) (z:Zn) (v:Int):Ck:=
 {files:=C.files.set j {y with c:=(setR y.c x.page v).1},frames:=C.frames.set i frNo,zones:=C.zones.set k {z with free:=insL z.free ((i:Int)+1)},groups:=(unchargeL C.groups t gr 1).1,lists:=C.lists.set t (remL l ((i:Int)+1)),clocks:=C.clocks,ptes:=dropP C.ptes ((i:Int)+1)}
structure GoneH (C:Ck) (i t k:Nat) (x:Fr) (l:Lr) (gr:Gr) (z:Zn):Prop where
 ten:x.tenant=t
 lst:C.lists[t]?=some l
 lok:LruOk l
 grp:C.groups[t]?=some gr
 gok:GrsOk C.groups
 zon:C.zones[k]?=some z
 zin:z.first≤(i:Int)+1∧(i:Int)+1<z.first+z.size
 zno:(i:Int)+1 ∉ z.free
 zok:ZonesOk C.zones
 pok:PtsOk C.ptes
 i64:i<64
theorem gone_w (C:Ck) (i j t k:Nat) (x:Fr) (y:Fl) (l:Lr) (gp:Gr) (zn:Zn) (v:Int) (a b c d e f g:Value) (S:Nat→Prop) (w:World) (h:CkAt w S a b c d e f g C) (hl:CkOk C) (hu:FrU C i x j y) (hg:GoneH C i t k x l gp zn) (hS:∀z,w.heap.size≤z→S z) :
  Calls Tryz.prog 97 #[ckV a b c d e f g,.int .i64 ((i:Int)+1),.int .i64 v] w (RetOwn (goneC C i j t k x y l gp zn v) S w):=by
 obtain ⟨S1,s1,s2,s3⟩:=s1set hS;replace h:=h.weak s3;clear s3;have hus:=fun w' (hb:Below w.heap.size w w')=>used_w C i x a b c d e f g S1 w' (h.step hb) hu.fr hl.frames.2;rw [hu.used] at hus;obtain ⟨A1,cf0,rfl,q1,q2⟩:=h.files.form;obtain ⟨A2,cr0,rfl,q3,q4⟩:=h.frames.form;obtain ⟨A3,m3,c3,A4,m4,c4,A5,m5,c5,A6,m6,c6,A7,m7,c7,rfl,rfl,rfl,rfl,rfl⟩:=CkAt.caps5 h;obtain ⟨bb,o,rfl,hbl,y0,y1,y2,y3,y4,y5,y6,y7,y8⟩:=FrA.cells h.frames hu.fr;obtain ⟨bf,of,kt,KB,kc,rfl,hbf,k1,k2,k3,k4,hcf⟩:=FlA.cells h.files hu.fl;have hil:=(g_l hu.fr);have hjl:=(g_l hu.fl);have i2:(i:Int)<(C.frames.length:Int):=by omega
 have hl2:C.frames.length≤100:=hl.frames.2;have hl1:C.files.length≤100:=hl.files.2;have j2:(j:Int)<(C.files.length:Int):=by omega
 have H:=H_ h;have HL:=H_ hl;have HU:=H_ hu;clear h hl hu k1 k2 k3 k4;have GH:=H_ hg;clear hg hus;go_enter Tryz.func97,Tryz.ntmps97
 go_upto_region 1 with fail
 generalize hW9:(w.alloc _).alloc _=W0;obtain ⟨HX,HR,HW,HZ⟩:=two_box hW9;clear hW9;obtain ⟨x0,x1,x2,x3,x4,x5,x6⟩:=cs7 HX.out;replace y0:=(cell_kept (HW.out.block _ hbl)).trans y0;replace y1:=(cell_kept (HW.out.block _ hbl)).trans y1;replace y2:=(cell_kept (HW.out.block _ hbl)).trans y2;replace y3:=(cell_kept (HW.out.block _ hbl)).trans y3;replace y4:=(cell_kept (HW.out.block _ hbl)).trans y4;replace y5:=(cell_kept (HW.out.block _ hbl)).trans y5;replace y6:=(cell_kept (HW.out.block _ hbl)).trans y6;replace y7:=(cell_kept (HW.out.block _ hbl)).trans y7;replace y8:=(cell_kept (HW.out.block _ hbl)).trans y8
 go_upto_region 2 with fail
 have HF2:=H_ (heap_at_new W0 (oF x) (w.heap.size+1+1) HZ);have HX2:=H_ (bk_alloc HX.out (oF x));have HR2:=H_ (bk_alloc HR.out (oF x));have HW2:=H_ (bl_alloc HW.out (oF x));have HZ2:(W0.alloc (oF x)).heap.size=w.heap.size+1+1+1:=by simp [HZ]
 generalize W0.alloc (oF x)=W at HF2 HX2 HR2 HW2 HZ2;clear x0 x1 x2 x3 x4 x5 x6 y0 y1 y2 y3 y4 y5 y6 y7 y8;obtain ⟨x0,x1,x2,x3,x4,x5,x6⟩:=cs7 HX2.out
 go_upto_region 3 with (go_at_call 69;go_loud (with_reducible refine CM (copyL_w C _ _ _ _ _ _ _ S1 _ (H.out.step HW2.out) HL.out (fun z hz=>s2 z (by omega))) ?_);rintro e w1 ⟨gf,nf,cf,gr',nr,cr,c',d',gl,nl,cl,gk,nk,ck,g',rfl,hc1,hb1⟩;obtain ⟨P3,n3,r3,rfl⟩:=hc1.zones.cap;obtain ⟨P4,n4,r4,rfl⟩:=hc1.groups.cap;obtain ⟨P7,n7,r7,rfl⟩:=hc1.ptes.cap)
 obtain ⟨X,hX⟩:∃X,X=w1.heap.size:=⟨_,rfl⟩;obtain ⟨Sx,hSx⟩:∃Sx:Nat→Prop,Sx=fun z=>S1 z∧z≠X:=⟨_,rfl⟩;have sx1:∀z,Sx z→S1 z∧z≠X:=fun z hz=>by rw [hSx] at hz;exact hz
 have hXz:w.heap.size+1+1<X∧W.heap.size≤X∧gk<X:=⟨by have:=hb1.size;omega,by have:=hb1.size;omega,by rw [hX];exact hc1.lt⟩;have sx2:∀z,X<z→Sx z:=fun z hz=>by rw [hSx];exact ⟨s2 z (by omega),by omega⟩
 have hord:w.heap.size+1+1<gf∧gf<gr'∧gr'<gl∧gl<gk:=⟨by have:=hc1.o1;omega,hc1.o2,hc1.o3,hc1.o4⟩;have HT:=H_ (H.out.weak (S':=TS Sx gf gr' gl gk) (fun z hz h=>⟨by rw [hSx];exact ⟨h,by omega⟩,by omega,by omega,by omega,by omega⟩));have HC3:=H_ (show CpL (w1.alloc (.cells #[.slice (some ⟨gf,0,none⟩) nf cf,.slice (some ⟨gr',0,none⟩) nr cr,.slice P3 n3 r3,.slice P4 n4 r4,.slice (some ⟨gl,0,none⟩) nl cl,.slice (some ⟨gk,0,none⟩) nk ck,.slice P7 n7 r7] 30)) Sx W.heap.size gf nf cf gr' nr cr (.slice P3 n3 r3) (.slice P4 n4 r4) gl nl cl gk nk ck (.slice P7 n7 r7) C by rw [hSx];exact (hc1.but X (by omega)).step (bl_alloc B_ _));have HO3:=H_ (heap_at_new w1 (.cells #[.slice (some ⟨gf,0,none⟩) nf cf,.slice (some ⟨gr',0,none⟩) nr cr,.slice P3 n3 r3,.slice P4 n4 r4,.slice (some ⟨gl,0,none⟩) nl cl,.slice (some ⟨gk,0,none⟩) nk ck,.slice P7 n7 r7] 30) X hX.symm);have HX3:=H_ (bk_alloc (bk_step HX2.out hb1) (.cells #[.slice (some ⟨gf,0,none⟩) nf cf,.slice (some ⟨gr',0,none⟩) nr cr,.slice P3 n3 r3,.slice P4 n4 r4,.slice (some ⟨gl,0,none⟩) nl cl,.slice (some ⟨gk,0,none⟩) nk ck,.slice P7 n7 r7] 30));have HR3:=H_ (bk_alloc (bk_step HR2.out hb1) (.cells #[.slice (some ⟨gf,0,none⟩) nf cf,.slice (some ⟨gr',0,none⟩) nr cr,.slice P3 n3 r3,.slice P4 n4 r4,.slice (some ⟨gl,0,none⟩) nl cl,.slice (some ⟨gk,0,none⟩) nk ck,.slice P7 n7 r7] 30));have HF3:=H_ (bk_alloc (bk_step HF2.out hb1) (.cells #[.slice (some ⟨gf,0,none⟩) nf cf,.slice (some ⟨gr',0,none⟩) nr cr,.slice P3 n3 r3,.slice P4 n4 r4,.slice (some ⟨gl,0,none⟩) nl cl,.slice (some ⟨gk,0,none⟩) nk ck,.slice P7 n7 r7] 30));have HW3:=H_ (bl_alloc (bl_step HW2.out hb1) (.cells #[.slice (some ⟨gf,0,none⟩) nf cf,.slice (some ⟨gr',0,none⟩) nr cr,.slice P3 n3 r3,.slice P4 n4 r4,.slice (some ⟨gl,0,none⟩) nl cl,.slice (some ⟨gk,0,none⟩) nk ck,.slice P7 n7 r7] 30));have hs3:(w1.alloc (.cells #[.slice (some ⟨gf,0,none⟩) nf cf,.slice (some ⟨gr',0,none⟩) nr cr,.slice P3 n3 r3,.slice P4 n4 r4,.slice (some ⟨gl,0,none⟩) nl cl,.slice (some ⟨gk,0,none⟩) nk ck,.slice P7 n7 r7] 30)).heap.size=X+1:=by simp [hX]
 rw [←hX];generalize w1.alloc (.cells #[.slice (some ⟨gf,0,none⟩) nf cf,.slice (some ⟨gr',0,none⟩) nr cr,.slice P3 n3 r3,.slice P4 n4 r4,.slice (some ⟨gl,0,none⟩) nl cl,.slice (some ⟨gk,0,none⟩) nk ck,.slice P7 n7 r7] 30)=W3 at HC3 HO3 HX3 HR3 HF3 HW3 hs3;have hfr:∀w':World,X+1≤w'.heap.size→∀z,w'.heap.size≤z→TS Sx gf gr' gl gk z:=fun w' hw' z hz=>⟨sx2 z (by omega),by omega,by omega,by omega,by omega⟩;have hnf:j<nf∧nf≤1000:=⟨by rw [←HC3.out.ef];exact hjl,by rw [←HC3.out.ef];omega⟩;have hnr:i<nr∧nr≤1000:=⟨by rw [←HC3.out.er];exact hil,by rw [←HC3.out.er];omega⟩;have htl:=(g_l GH.out.lst);have hnl:t<nl∧nl≤1000:=⟨by rw [←HC3.out.el];exact htl,by rw [←HC3.out.el];have:=HL.out.lists.2;omega⟩;have nX:¬Sx X:=fun hz=>(sx1 _ hz).2 rfl;clear hX hSx hc1 hb1 HX2 HR2 HF2 HW2 x0 x1 x2 x3 x4 x5 x6;obtain ⟨x0,x1,x2,x3,x4,x5,x6⟩:=cs7 HX3.out;have hdr:=drop_w C.ptes ((i:Int)+1) _ (TS Sx gf gr' gl gk) W3 (HT.out.ptes.step HW3.out) GH.out.pok (hfr W3 (by omega))
 go_upto_region 4 with (go_at_call 134;go_loud (with_reducible refine CM hdr ?_);rintro e w4 ⟨pv,rfl,hpv,hb4⟩;obtain ⟨P8,n8,r8,rfl⟩:=hpv.cap;have HC4:=H_ (HC3.out.step (hb4));have HO4:=H_ (bk_step HO3.out (hb4));have HR4:=H_ (bk_step HR3.out (hb4));have HF4:=H_ (bk_step HF3.out (hb4));have HX4:=H_ (bk_step HX3.out (hb4));have HW4:=H_ (bl_step HW3.out (hb4));have HP4:=H_ hpv;have hs4:=hb4.size;have o6:=cells_at HO4.out 6;have o6f:=free_at HO4.out 6;clear hpv hb4)
 have HO5:=H_ (show (w4.setCell ⟨X,6,none⟩ (.slice P8 n8 r8)).heap[X]?=some (.cells #[.slice (some ⟨gf,0,none⟩) nf cf,.slice (some ⟨gr',0,none⟩) nr cr,.slice P3 n3 r3,.slice P4 n4 r4,.slice (some ⟨gl,0,none⟩) nl cl,.slice (some ⟨gk,0,none⟩) nk ck,.slice P8 n8 r8] 30 (0,0)) from set_same HO4.out _);have HR5:=H_ ((Below.heap_setCell w4 ⟨X,6,none⟩ (.slice P8 n8 r8) (w.heap.size+1) (by show w.heap.size+1≠X;omega)).trans HR4.out);have HF5:=H_ ((Below.heap_setCell w4 ⟨X,6,none⟩ (.slice P8 n8 r8) (w.heap.size+1+1) (by show w.heap.size+1+1≠X;omega)).trans HF4.out);have HX5:=H_ ((Below.heap_setCell w4 ⟨X,6,none⟩ (.slice P8 n8 r8) w.heap.size (by show w.heap.size≠X;omega)).trans HX4.out);have HW5:=H_ (bl_set HW4.out ⟨X,6,none⟩ (.slice P8 n8 r8) (by show w.heap.size≤X;omega));have HC5:=H_ ((HC4.out.with_ HC4.out.zones HC4.out.groups HP4.out).setCellX X 6 (.slice P8 n8 r8) nX hXz.2.2);have hs5:X+1≤(w4.setCell ⟨X,6,none⟩ (.slice P8 n8 r8)).heap.size:=by simp [World.setCell];omega
 generalize w4.setCell ⟨X,6,none⟩ (.slice P8 n8 r8)=W5 at HC5 HO5 HX5 HR5 HF5 HW5 hs5;clear x0 x1 x2 x3 x4 x5 x6 o6 o6f;obtain ⟨x0,x1,x2,x3,x4,x5,x6⟩:=cs7 HX5.out;obtain ⟨f0,f1,f2,f3,f4,f5,f6,f7,f8⟩:=cs9 HF5.out;have o0:=cells_at HO5.out 0;have o1:=cells_at HO5.out 1;have o4:=cells_at HO5.out 4;simp only [List.getElem?_toArray,List.getElem?_cons_zero,List.getElem?_cons_succ] at o0 o1 o4;rw [HU.out.ix] at f0;rw [GH.out.ten] at f5;have hlx:=bk_lt HX5.out;have hlf:=bk_lt HF5.out;have hlo:=bk_lt HO5.out;obtain ⟨bl,ol,E1,u1,v1,E2,u2,v2,E3,u3,v3,eA5,em5,hbl5,hA,l0,l1,l2⟩:=LlA.cells HT.out.lists GH.out.lst;rw [eA5,em5] at x4;have HA:=H_ hA;clear hA eA5 em5;have hlb:bl<W5.heap.size:=Nat.lt_of_lt_of_le hbl5 HW5.out.size;replace l0:=(cell_kept (HW5.out.block _ hbl5)).trans l0;replace l1:=(cell_kept (HW5.out.block _ hbl5)).trans l1;replace l2:=(cell_kept (HW5.out.block _ hbl5)).trans l2;have hl3:C.lists.length≤100:=HL.out.lists.2
 go_cut [] (fun wx=>CpL wx Sx W.heap.size gf nf cf gr' nr cr (.slice P3 n3 r3) (.slice P4 n4 r4) gl nl cl gk nk ck (.slice P8 n8 r8) (⟨C.files,C.frames,C.zones,C.groups,C.lists.set t (remL l ((i:Int)+1)),C.clocks,dropP C.ptes ((i:Int)+1)⟩:Ck)∧wx.heap[X]?=some (.cells #[.slice (some ⟨gf,0,none⟩) nf cf,.slice (some ⟨gr',0,none⟩) nr cr,.slice P3 n3 r3,.slice P4 n4 r4,.slice (some ⟨gl,0,none⟩) nl cl,.slice (some ⟨gk,0,none⟩) nk ck,.slice P8 n8 r8] 30 (0,0))∧wx.heap[w.heap.size+1]?=some (oCZ)∧wx.heap[w.heap.size+1+1]?=some (oF x)∧wx.heap[w.heap.size]?=some (.cells #[.slice (some ⟨bf,of,none⟩) C.files.length cf0,.slice (some ⟨bb,o,none⟩) C.frames.length cr0,.slice A3 m3 c3,.slice A4 m4 c4,.slice A5 m5 c5,.slice A6 m6 c6,.slice A7 m7 c7] 30 (0,0))∧Below w.heap.size w wx)
 case first=>
  refine wp_region_sk (S:=TS Sx gf gr' gl gk) 82 16 (inL [0,1,2,3,4,5,6,7,8,9,10,11,12,13,15]) (fun wx=>CpL wx Sx W.heap.size gf nf cf gr' nr cr (.slice P3 n3 r3) (.slice P4 n4 r4) gl nl cl gk nk ck (.slice P8 n8 r8) (⟨C.files,C.frames,C.zones,C.groups,C.lists.set t (remL l ((i:Int)+1)),C.clocks,dropP C.ptes ((i:Int)+1)⟩:Ck)∧wx.heap[X]?=some (.cells #[.slice (some ⟨gf,0,none⟩) nf cf,.slice (some ⟨gr',0,none⟩) nr cr,.slice P3 n3 r3,.slice P4 n4 r4,.slice (some ⟨gl,0,none⟩) nl cl,.slice (some ⟨gk,0,none⟩) nk ck,.slice P8 n8 r8] 30 (0,0))∧wx.heap[w.heap.size+1]?=some (oCZ)∧wx.heap[w.heap.size+1+1]?=some (oF x)∧wx.heap[w.heap.size]?=some (.cells #[.slice (some ⟨bf,of,none⟩) C.files.length cf0,.slice (some ⟨bb,o,none⟩) C.frames.length cr0,.slice A3 m3 c3,.slice A4 m4 c4,.slice A5 m5 c5,.slice A6 m6 c6,.slice A7 m7 c7] 30 (0,0))∧Below w.heap.size w wx) [SK.eq (.pointer (some ⟨X,4,none⟩)),SK.eq (.slice (some ⟨gl,0,none⟩) nl cl),SK.eq (.pointer (some ⟨w.heap.size+1+1,5,none⟩)),SK.eq (.int .i64 (t:Int)),SK.eq (.pointer (some ⟨w.heap.size,4,none⟩)),SK.eq (.slice (some ⟨bl,ol,none⟩) C.lists.length c5),SK.eq (.pointer (some ⟨w.heap.size+1+1,5,none⟩)),SK.eq (.int .i64 (t:Int)),SK.eq (.pointer (some ⟨bl,ol+t*3,none⟩)),SK.eq (.agg #[.slice E1 u1 v1,.slice E2 u2 v2,.slice E3 u3 v3]),SK.eq (.int .i64 ((i:Int)+1)),SK.lr2 (TS Sx gf gr' gl gk) (remL l ((i:Int)+1)) (if hasL l ((i:Int)+1)=true then 0 else 4) (fun _ h=>h),SK.lr2 (TS Sx gf gr' gl gk) (remL l ((i:Int)+1)) (if hasL l ((i:Int)+1)=true then 0 else 4) (fun _ h=>h),SK.lr (TS Sx gf gr' gl gk) (remL l ((i:Int)+1)) (fun _ h=>h),SK.eq (.int .i64 (if hasL l ((i:Int)+1)=true then 0 else 4)),SK.eq (.pointer (some ⟨gl,t*3,none⟩)),SK.any] (by kernel_rfl) (by kernel_rfl) rfl (fun _=>trivial) ?_;refine rP rfl rfl (fun xw hC hd K hK=>?_) (fun v0=>?_)
  ·go_simp;exact hK _ _ hC K_ rfl
  simp only [ly];refine rP rfl rfl (fun xw hC hd K hK=>?_) (fun v1=>?_)
  ·obtain rfl:v0=_:=hd 0 (by kernel_rfl);have hC':Below W5.heap.size W5 xw:=hC;have u0:=(hC'.cell (p:=⟨X,_,none⟩) hlo).trans o4;go_simp;exact hK _ _ hC K_ rfl
  simp only [ly];refine rP rfl rfl (fun xw hC hd K hK=>?_) (fun v2=>?_)
  ·go_simp;exact hK _ _ hC K_ rfl
  simp only [ly];refine rP rfl rfl (fun xw hC hd K hK=>?_) (fun v3=>?_)
  ·obtain rfl:v2=_:=hd 2 (by kernel_rfl);have hC':Below W5.heap.size W5 xw:=hC;have u0:=(hC'.cell (p:=⟨w.heap.size+1+1,_,none⟩) hlf).trans f5;go_simp;exact hK _ _ hC K_ rfl
  simp only [ly];refine rP rfl rfl (fun xw hC hd K hK=>?_) (fun v4=>?_)
  ·go_simp;exact hK _ _ hC K_ rfl
  simp only [ly];refine rP rfl rfl (fun xw hC hd K hK=>?_) (fun v5=>?_)
  ·obtain rfl:v4=_:=hd 4 (by kernel_rfl);have hC':Below W5.heap.size W5 xw:=hC;have u0:=(hC'.cell (p:=⟨w.heap.size,_,none⟩) hlx).trans x4;go_simp;exact hK _ _ hC K_ rfl
  simp only [ly];refine rP rfl rfl (fun xw hC hd K hK=>?_) (fun v6=>?_)
  ·go_simp;exact hK _ _ hC K_ rfl
  simp only [ly];refine rP rfl rfl (fun xw hC hd K hK=>?_) (fun v7=>?_)
  ·obtain rfl:v6=_:=hd 6 (by kernel_rfl);have hC':Below W5.heap.size W5 xw:=hC;have u0:=(hC'.cell (p:=⟨w.heap.size+1+1,_,none⟩) hlf).trans f5;go_simp;exact hK _ _ hC K_ rfl
  simp only [ly];refine rP rfl rfl (fun xw hC hd K hK=>?_) (fun v8=>?_)
  ·obtain rfl:v5=_:=hd 5 (by kernel_rfl);obtain rfl:v7=_:=hd 7 (by kernel_rfl);go_simp;exact hK _ _ hC K_ rfl
  simp only [ly];refine rP rfl rfl (fun xw hC hd K hK=>?_) (fun v9=>?_)
  ·obtain rfl:v8=_:=hd 8 (by kernel_rfl);have hC':Below W5.heap.size W5 xw:=hC;have u0:=(hC'.cell (p:=⟨bl,_,none⟩) hlb).trans l0;have u1:=(hC'.cell (p:=⟨bl,_,none⟩) hlb).trans l1;have u2:=(hC'.cell (p:=⟨bl,_,none⟩) hlb).trans l2;go_simp;exact hK _ _ hC K_ rfl
  simp only [ly];refine rP rfl rfl (fun xw hC hd K hK=>?_) (fun v10=>?_)
  ·go_simp;exact hK _ _ hC K_ rfl
  simp only [ly];refine rP rfl rfl (fun xw hC hd K hK=>?_) (fun v11=>?_)
  ·obtain rfl:v9=_:=hd 9 (by kernel_rfl);obtain rfl:v10=_:=hd 10 (by kernel_rfl);have hC':Below W5.heap.size W5 xw:=hC;go_simp
   go_at_call 135
   refine (remove_w l ((i:Int)+1) _ _ _ (TS Sx gf gr' gl gk) _ (HA.out.step (bl_step HW5.out hC')) GH.out.lok ⟨by omega,by have:=GH.out.i64;omega⟩ (hfr _ (Nat.le_trans hs5 hC'.size))).mono ?_;rintro e w1 ⟨q1,q2,q3,rfl,hA,hb⟩;exact hK _ _ (bl_step hC' hb) (KeepS.of_below hb) ⟨q1,q2,q3,rfl,hA⟩
  simp only [ly];refine rP rfl rfl (fun xw hC hd K hK=>?_) (fun v12=>?_)
  ·obtain ⟨q1,q2,q3,e,hA⟩:=hd 11 (by kernel_rfl);obtain rfl:v11=_:=e;go_simp;exact hK _ _ hC K_ ⟨q1,q2,q3,rfl,hA⟩
  simp only [ly];refine rP rfl rfl (fun xw hC hd K hK=>?_) (fun v13=>?_)
  ·obtain ⟨q1,q2,q3,e,hA⟩:=hd 12 (by kernel_rfl);obtain rfl:v12=_:=e;go_simp;exact hK _ _ hC K_ ⟨q1,q2,q3,rfl,hA⟩
  simp only [ly];refine rA rfl (fun w=>KeepS.refl w) (fun xw hd K hK=>?_) (fun v14=>?_)
  ·obtain ⟨q1,q2,q3,e,hA⟩:=hd 12 (by kernel_rfl);obtain rfl:v12=_:=e;go_simp;exact hK _ rfl
  simp only [ly];refine rP rfl rfl (fun xw hC hd K hK=>?_) (fun v15=>?_)
  ·obtain rfl:v1=_:=hd 1 (by kernel_rfl);obtain rfl:v3=_:=hd 3 (by kernel_rfl);go_simp;exact hK _ _ hC K_ rfl
  simp only [ly];refine rS (fun xw hC hd K hK=>?_) (fun v16=>?_)
  ·obtain rfl:v15=_:=hd 15 (by kernel_rfl);obtain ⟨q1,q2,q3,e,hA⟩:=hd 13 (by kernel_rfl);obtain rfl:v13=_:=e;have hC':Below W5.heap.size W5 xw:=hC;obtain ⟨B1,j1,f1',rfl⟩:=hA.1.cap;obtain ⟨B2,j2',f2',rfl⟩:=hA.2.1.cap;obtain ⟨B3,j3,f3',rfl⟩:=hA.2.2.cap;have HC6:=HC5.out.step hC';have hth:=LW.there HC6.lists (i:=t) htl (p:=0) (n:=3) (by omega);rw [Nat.add_zero] at hth;refine wp_of_list (ops:=#[]) rfl (wpList_store_mid rfl 121 (.tmp 37) (.tmp 35) rfl gl (t*3) #[.slice B1 j1 f1',.slice B2 j2' f2',.slice B3 j3 f3'] rfl rfl hth lru_size (one3 _ _ _ _ _ _ _ _ _) ?_);refine hK undef _ ⟨HC6.putLists (gb_setCells xw gl (t*3) _) (HC6.lists.set htl ⟨_,_,_,rfl,hA⟩) (by simp),?_,?_,?_,?_,?_⟩ (KeepS.of_setCells _ _ _ _ (fun h=>h.2.2.2.1 rfl)) trivial
   ·exact (heap_setCells gl _ (t*3) xw X (by omega)).trans (bk_step HO5.out hC')
   ·exact (heap_setCells gl _ (t*3) xw (w.heap.size+1) (by omega)).trans (bk_step HR5.out hC')
   ·exact (heap_setCells gl _ (t*3) xw (w.heap.size+1+1) (by omega)).trans (bk_step HF5.out hC')
   ·exact (heap_setCells gl _ (t*3) xw w.heap.size (by omega)).trans (bk_step HX5.out hC')
   ·exact bl_setCells (bl_step HW5.out hC') (by omega) _ _
  simp only [ly];refine relWalkA_nil ?_;intro wz hD hG;clear hG;go_wp2;go_meet
  case rel=>exact hD
 case rest=>
  clear hlb l0 l1 l2 HC5 HO5 HX5 HR5 HF5 HW5 HC4 HO4 HX4 HR4 HF4 HW4;clear x0 x1 x2 x3 x4 x5 x6 f0 f1 f2 f3 f4 f5 f6 f7 f8 o0 o1 o4 hlx hlf hlo;obtain ⟨hC6,hO6,hR6,hF6,hX6,hW6⟩:=hcut;have HC6:=H_ hC6;have HO6:=H_ hO6;have HR6:=H_ hR6;have HF6:=H_ hF6;have HX6:=H_ hX6;have HW6:=H_ hW6;clear hC6 hO6 hR6 hF6 hX6 hW6;obtain ⟨x0,x1,x2,x3,x4,x5,x6⟩:=cs7 HX6.out;obtain ⟨f0,f1,f2,f3,f4,f5,f6,f7,f8⟩:=cs9 HF6.out;have o0:=cells_at HO6.out 0;have o1:=cells_at HO6.out 1;have o4:=cells_at HO6.out 4;simp only [List.getElem?_toArray,List.getElem?_cons_zero,List.getElem?_cons_succ] at o0 o1 o4;rw [HU.out.ix] at f0;rw [GH.out.ten] at f5;have hlx:=bk_lt HX6.out;have hlf:=bk_lt HF6.out;have hlo:=bk_lt HO6.out;have hun:=uncharge_w C.groups t gp 1 _ (TS Sx gf gr' gl gk) wc (HT.out.groups.step HW6.out) GH.out.grp GH.out.gok ⟨by omega,by omega⟩ (hfr wc (by omega))
  go_upto_region 6 with (go_at_call 136;go_loud (with_reducible refine CM hun ?_);rintro e w7 ⟨gv,rfl,hgv,hb7⟩;obtain ⟨P9,n9,r9,rfl⟩:=hgv.cap;have HC7:=H_ (HC6.out.step (hb7));have HO7:=H_ (bk_step HO6.out (hb7));have HR7:=H_ (bk_step HR6.out (hb7));have HF7:=H_ (bk_step HF6.out (hb7));have HX7:=H_ (bk_step HX6.out (hb7));have HW7:=H_ (bl_step HW6.out (hb7));have HG7:=H_ hgv;have hs7:=hb7.size;have o3:=cells_at HO7.out 3;have o3f:=free_at HO7.out 3;clear hgv hb7)
  have HO8:=H_ (show (w7.setCell ⟨X,3,none⟩ (.slice P9 n9 r9)).heap[X]?=some (.cells #[.slice (some ⟨gf,0,none⟩) nf cf,.slice (some ⟨gr',0,none⟩) nr cr,.slice P3 n3 r3,.slice P9 n9 r9,.slice (some ⟨gl,0,none⟩) nl cl,.slice (some ⟨gk,0,none⟩) nk ck,.slice P8 n8 r8] 30 (0,0)) from set_same HO7.out _);have HR8:=H_ ((Below.heap_setCell w7 ⟨X,3,none⟩ (.slice P9 n9 r9) (w.heap.size+1) (by show w.heap.size+1≠X;omega)).trans HR7.out);have HF8:=H_ ((Below.heap_setCell w7 ⟨X,3,none⟩ (.slice P9 n9 r9) (w.heap.size+1+1) (by show w.heap.size+1+1≠X;omega)).trans HF7.out);have HX8:=H_ ((Below.heap_setCell w7 ⟨X,3,none⟩ (.slice P9 n9 r9) w.heap.size (by show w.heap.size≠X;omega)).trans HX7.out);have HW8:=H_ (bl_set HW7.out ⟨X,3,none⟩ (.slice P9 n9 r9) (by show w.heap.size≤X;omega));have HC8:=H_ ((HC7.out.with_ HC7.out.zones HG7.out HC7.out.ptes).setCellX X 3 (.slice P9 n9 r9) nX hXz.2.2);have hs8:X+1≤(w7.setCell ⟨X,3,none⟩ (.slice P9 n9 r9)).heap.size:=by simp [World.setCell];omega
  generalize w7.setCell ⟨X,3,none⟩ (.slice P9 n9 r9)=W8 at HC8 HO8 HX8 HR8 HF8 HW8 hs8;clear x0 x1 x2 x3 x4 x5 x6 f0 f1 f2 f3 f4 f5 f6 f7 f8 o0 o1 o4 o3 o3f hlx hlf hlo hun HC7 HO7 HX7 HR7 HF7 HW7 HG7;obtain ⟨x0,x1,x2,x3,x4,x5,x6⟩:=cs7 HX8.out;have hgi:=give_w C.zones k zn ((i:Int)+1) _ (TS Sx gf gr' gl gk) W8 (HT.out.zones.step HW8.out) GH.out.zon GH.out.zin GH.out.zno GH.out.zok (hfr W8 (by omega))
  go_upto_region 7 with (go_at_call 137;go_loud (with_reducible refine CM hgi ?_);rintro e w9 ⟨zv,rfl,hzv,hb9⟩;obtain ⟨P10,n10,r10,rfl⟩:=hzv.cap;have HC9:=H_ (HC8.out.step (hb9));have HO9:=H_ (bk_step HO8.out (hb9));have HR9:=H_ (bk_step HR8.out (hb9));have HF9:=H_ (bk_step HF8.out (hb9));have HX9:=H_ (bk_step HX8.out (hb9));have HW9:=H_ (bl_step HW8.out (hb9));have HG9:=H_ hzv;have hs9:=hb9.size;have o2:=cells_at HO9.out 2;have o2f:=free_at HO9.out 2;clear hzv hb9)
  have HO10:=H_ (show (w9.setCell ⟨X,2,none⟩ (.slice P10 n10 r10)).heap[X]?=some (.cells #[.slice (some ⟨gf,0,none⟩) nf cf,.slice (some ⟨gr',0,none⟩) nr cr,.slice P10 n10 r10,.slice P9 n9 r9,.slice (some ⟨gl,0,none⟩) nl cl,.slice (some ⟨gk,0,none⟩) nk ck,.slice P8 n8 r8] 30 (0,0)) from set_same HO9.out _);have HR10:=H_ ((Below.heap_setCell w9 ⟨X,2,none⟩ (.slice P10 n10 r10) (w.heap.size+1) (by show w.heap.size+1≠X;omega)).trans HR9.out);have HF10:=H_ ((Below.heap_setCell w9 ⟨X,2,none⟩ (.slice P10 n10 r10) (w.heap.size+1+1) (by show w.heap.size+1+1≠X;omega)).trans HF9.out);have HX10:=H_ ((Below.heap_setCell w9 ⟨X,2,none⟩ (.slice P10 n10 r10) w.heap.size (by show w.heap.size≠X;omega)).trans HX9.out);have HW10:=H_ (bl_set HW9.out ⟨X,2,none⟩ (.slice P10 n10 r10) (by show w.heap.size≤X;omega));have HC10:=H_ ((HC9.out.with_ HG9.out HC9.out.groups HC9.out.ptes).setCellX X 2 (.slice P10 n10 r10) nX hXz.2.2);have hs10:X+1≤(w9.setCell ⟨X,2,none⟩ (.slice P10 n10 r10)).heap.size:=by simp [World.setCell];omega
  generalize w9.setCell ⟨X,2,none⟩ (.slice P10 n10 r10)=W10 at HC10 HO10 HX10 HR10 HF10 HW10 hs10;clear x0 x1 x2 x3 x4 x5 x6 o2 o2f hgi HC9 HO9 HX9 HR9 HF9 HW9 HG9;obtain ⟨x0,x1,x2,x3,x4,x5,x6⟩:=cs7 HX10.out;obtain ⟨f0,f1,f2,f3,f4,f5,f6,f7,f8⟩:=cs9 HF10.out;have o0:=cells_at HO10.out 0;have o1:=cells_at HO10.out 1;have o4:=cells_at HO10.out 4;simp only [List.getElem?_toArray,List.getElem?_cons_zero,List.getElem?_cons_succ] at o0 o1 o4;rw [HU.out.ix] at f0;rw [GH.out.ten] at f5;have hlx:=bk_lt HX10.out;have hlf:=bk_lt HF10.out;have hlo:=bk_lt HO10.out;obtain ⟨bf',of',kt',KB',kc',ebf,hbf',k1,k2,k3,k4,hcf'⟩:=FlA.cells HT.out.files HU.out.fl;obtain ⟨rfl,rfl⟩:bf=bf'∧of=of':=by injection ebf with e;injection e with e1 e2;exact ⟨e1,e2⟩
  have z2:W10.cell? ⟨bf,of+j*15+2,none⟩=some (.int .i64 kt'):=(cell_kept (HW10.out.block _ hbf)).trans (hcf' 2 _ rfl);have z3:=(cell_kept (HW10.out.block _ hbf)).trans (hcf' 3 _ rfl);have z4:W10.cell? ⟨bf,of+j*15+4,none⟩=some (.int .i64 (cano kt' y.c).val):=(cell_kept (HW10.out.block _ hbf)).trans (hcf' 4 _ rfl);have z5:W10.cell? ⟨bf,of+j*15+5,none⟩=some (.int .i64 (cano kt' y.c).marks):=(cell_kept (HW10.out.block _ hbf)).trans (hcf' 5 _ rfl);have hlb:bf<W10.heap.size:=Nat.lt_of_lt_of_le hbf HW10.out.size;have HLf:=H_ k1;have hset:=fun w' (hb:Below W10.heap.size W10 w')=>rSet_w kt' y.c KB' kc' (TS Sx gf gr' gl gk) x.page v w' k1 k2 k3 (k4.step (bl_step HW10.out hb)) (hfr w' (Nat.le_trans hs10 hb.size));clear hcf' ebf hbf' k1 k2 k3 k4
  go_cut [] (fun wx=>CpL wx Sx W.heap.size gf nf cf gr' nr cr (.slice P10 n10 r10) (.slice P9 n9 r9) gl nl cl gk nk ck (.slice P8 n8 r8) (⟨C.files.set j ⟨y.dev,y.slot,(setR y.c x.page v).1,y.size,y.blocks,y.ecnt,y.eerr,y.sseq,y.ssize,y.sblocks,y.which,y.seq⟩,C.frames,C.zones.set k ⟨zn.first,zn.size,zn.mn,zn.low,zn.high,insL zn.free ((i:Int)+1)⟩,(unchargeL C.groups t gp 1).1,C.lists.set t (remL l ((i:Int)+1)),C.clocks,dropP C.ptes ((i:Int)+1)⟩:Ck)∧wx.heap[X]?=some (.cells #[.slice (some ⟨gf,0,none⟩) nf cf,.slice (some ⟨gr',0,none⟩) nr cr,.slice P10 n10 r10,.slice P9 n9 r9,.slice (some ⟨gl,0,none⟩) nl cl,.slice (some ⟨gk,0,none⟩) nk ck,.slice P8 n8 r8] 30 (0,0))∧wx.heap[w.heap.size+1]?=some (oCZ)∧wx.heap[w.heap.size+1+1]?=some (oF x)∧wx.heap[w.heap.size]?=some (.cells #[.slice (some ⟨bf,of,none⟩) C.files.length cf0,.slice (some ⟨bb,o,none⟩) C.frames.length cr0,.slice A3 m3 c3,.slice A4 m4 c4,.slice A5 m5 c5,.slice A6 m6 c6,.slice A7 m7 c7] 30 (0,0))∧Below w.heap.size w wx)
  case first=>
   refine wp_region_sk (S:=TS Sx gf gr' gl gk) 82 20 (inL [0,1,2,3,4,5,6,7,8,9,10,11,12,13,14,15,16,18,19]) (fun wx=>CpL wx Sx W.heap.size gf nf cf gr' nr cr (.slice P10 n10 r10) (.slice P9 n9 r9) gl nl cl gk nk ck (.slice P8 n8 r8) (⟨C.files.set j ⟨y.dev,y.slot,(setR y.c x.page v).1,y.size,y.blocks,y.ecnt,y.eerr,y.sseq,y.ssize,y.sblocks,y.which,y.seq⟩,C.frames,C.zones.set k ⟨zn.first,zn.size,zn.mn,zn.low,zn.high,insL zn.free ((i:Int)+1)⟩,(unchargeL C.groups t gp 1).1,C.lists.set t (remL l ((i:Int)+1)),C.clocks,dropP C.ptes ((i:Int)+1)⟩:Ck)∧wx.heap[X]?=some (.cells #[.slice (some ⟨gf,0,none⟩) nf cf,.slice (some ⟨gr',0,none⟩) nr cr,.slice P10 n10 r10,.slice P9 n9 r9,.slice (some ⟨gl,0,none⟩) nl cl,.slice (some ⟨gk,0,none⟩) nk ck,.slice P8 n8 r8] 30 (0,0))∧wx.heap[w.heap.size+1]?=some (oCZ)∧wx.heap[w.heap.size+1+1]?=some (oF x)∧wx.heap[w.heap.size]?=some (.cells #[.slice (some ⟨bf,of,none⟩) C.files.length cf0,.slice (some ⟨bb,o,none⟩) C.frames.length cr0,.slice A3 m3 c3,.slice A4 m4 c4,.slice A5 m5 c5,.slice A6 m6 c6,.slice A7 m7 c7] 30 (0,0))∧Below w.heap.size w wx) [SK.eq (.pointer (some ⟨X,0,none⟩)),SK.eq (.slice (some ⟨gf,0,none⟩) nf cf),SK.eq (.pointer (some ⟨w.heap.size+1+1,0,none⟩)),SK.eq (.int .i64 (j:Int)),SK.eq (.pointer (some ⟨w.heap.size,0,none⟩)),SK.eq (.slice (some ⟨bf,of,none⟩) C.files.length cf0),SK.eq (.pointer (some ⟨w.heap.size+1+1,0,none⟩)),SK.eq (.int .i64 (j:Int)),SK.eq (.pointer (some ⟨bf,of+j*15,none⟩)),SK.eq (.pointer (some ⟨bf,of+j*15+2,none⟩)),SK.eq (.agg #[.int .i64 kt',.slice KB' (cano kt' y.c).kids.length kc',.int .i64 (cano kt' y.c).val,.int .i64 (cano kt' y.c).marks]),SK.eq (.pointer (some ⟨w.heap.size+1+1,1,none⟩)),SK.eq (.int .i64 x.page),SK.eq (.int .i64 v),SK.tr2 (TS Sx gf gr' gl gk) (setR y.c x.page v).1 (setR y.c x.page v).2 (fun _ h=>h),SK.tr2 (TS Sx gf gr' gl gk) (setR y.c x.page v).1 (setR y.c x.page v).2 (fun _ h=>h),SK.tr1 (TS Sx gf gr' gl gk) (setR y.c x.page v).1 (fun _ h=>h),SK.eq (.int .i64 (setR y.c x.page v).2),SK.eq (.pointer (some ⟨gf,j*15,none⟩)),SK.eq (.pointer (some ⟨gf,j*15+2,none⟩)),SK.any] (by kernel_rfl) (by kernel_rfl) rfl (fun _=>trivial) ?_
   refine rP rfl rfl (fun xw hC hd K hK=>?_) (fun v0=>?_)
   ·go_simp;exact hK _ _ hC K_ rfl
   simp only [ly];refine rP rfl rfl (fun xw hC hd K hK=>?_) (fun v1=>?_)
   ·obtain rfl:v0=_:=hd 0 (by kernel_rfl);have hC':Below W10.heap.size W10 xw:=hC;have u0:=(hC'.cell (p:=⟨X,_,none⟩) hlo).trans o0;go_simp;exact hK _ _ hC K_ rfl
   simp only [ly];refine rP rfl rfl (fun xw hC hd K hK=>?_) (fun v2=>?_)
   ·go_simp;exact hK _ _ hC K_ rfl
   simp only [ly];refine rP rfl rfl (fun xw hC hd K hK=>?_) (fun v3=>?_)
   ·obtain rfl:v2=_:=hd 2 (by kernel_rfl);have hC':Below W10.heap.size W10 xw:=hC;have u0:=(hC'.cell (p:=⟨w.heap.size+1+1,_,none⟩) hlf).trans f0;go_simp;exact hK _ _ hC K_ rfl
   simp only [ly];refine rP rfl rfl (fun xw hC hd K hK=>?_) (fun v4=>?_)
   ·go_simp;exact hK _ _ hC K_ rfl
   simp only [ly];refine rP rfl rfl (fun xw hC hd K hK=>?_) (fun v5=>?_)
   ·obtain rfl:v4=_:=hd 4 (by kernel_rfl);have hC':Below W10.heap.size W10 xw:=hC;have u0:=(hC'.cell (p:=⟨w.heap.size,_,none⟩) hlx).trans x0;go_simp;exact hK _ _ hC K_ rfl
   simp only [ly];refine rP rfl rfl (fun xw hC hd K hK=>?_) (fun v6=>?_)
   ·go_simp;exact hK _ _ hC K_ rfl
   simp only [ly];refine rP rfl rfl (fun xw hC hd K hK=>?_) (fun v7=>?_)
   ·obtain rfl:v6=_:=hd 6 (by kernel_rfl);have hC':Below W10.heap.size W10 xw:=hC;have u0:=(hC'.cell (p:=⟨w.heap.size+1+1,_,none⟩) hlf).trans f0;go_simp;exact hK _ _ hC K_ rfl
   simp only [ly];refine rP rfl rfl (fun xw hC hd K hK=>?_) (fun v8=>?_)
   ·obtain rfl:v5=_:=hd 5 (by kernel_rfl);obtain rfl:v7=_:=hd 7 (by kernel_rfl);go_simp;exact hK _ _ hC K_ rfl
   simp only [ly];refine rP rfl rfl (fun xw hC hd K hK=>?_) (fun v9=>?_)
   ·obtain rfl:v8=_:=hd 8 (by kernel_rfl);go_simp;exact hK _ _ hC K_ rfl
   simp only [ly];refine rP rfl rfl (fun xw hC hd K hK=>?_) (fun v10=>?_)
   ·obtain rfl:v9=_:=hd 9 (by kernel_rfl);have hC':Below W10.heap.size W10 xw:=hC;have u0:=(hC'.cell (p:=⟨bf,_,none⟩) hlb).trans z2;have u1:=(hC'.cell (p:=⟨bf,_,none⟩) hlb).trans z3;have u2:=(hC'.cell (p:=⟨bf,_,none⟩) hlb).trans z4;have u3:=(hC'.cell (p:=⟨bf,_,none⟩) hlb).trans z5;go_simp;exact hK _ _ hC K_ rfl
   simp only [ly];refine rP rfl rfl (fun xw hC hd K hK=>?_) (fun v11=>?_)
   ·go_simp;exact hK _ _ hC K_ rfl
   simp only [ly];refine rP rfl rfl (fun xw hC hd K hK=>?_) (fun v12=>?_)
   ·obtain rfl:v11=_:=hd 11 (by kernel_rfl);have hC':Below W10.heap.size W10 xw:=hC;have u0:=(hC'.cell (p:=⟨w.heap.size+1+1,_,none⟩) hlf).trans f1;go_simp;exact hK _ _ hC K_ rfl
   simp only [ly];refine rP rfl rfl (fun xw hC hd K hK=>?_) (fun v13=>?_)
   ·go_simp;exact hK _ _ hC K_ rfl
   simp only [ly];refine rP rfl rfl (fun xw hC hd K hK=>?_) (fun v14=>?_)
   ·obtain rfl:v10=_:=hd 10 (by kernel_rfl);obtain rfl:v12=_:=hd 12 (by kernel_rfl);obtain rfl:v13=_:=hd 13 (by kernel_rfl);have hC':Below W10.heap.size W10 xw:=hC;go_simp
    go_at_call 71
    refine (hset xw hC').mono ?_;rintro e w1 ⟨h1,A1,p1,rfl,t1,c1,n1,hb⟩;exact hK _ _ (bl_step hC' hb) (KeepS.of_below hb) ⟨h1,A1,p1,rfl,t1,c1,n1⟩
   simp only [ly];refine rP rfl rfl (fun xw hC hd K hK=>?_) (fun v15=>?_)
   ·obtain ⟨h1,A1,p1,e,t1,c1,n1⟩:=hd 14 (by kernel_rfl);obtain rfl:v14=_:=e;go_simp;exact hK _ _ hC K_ ⟨h1,A1,p1,rfl,t1,c1,n1⟩
   simp only [ly];refine rP rfl rfl (fun xw hC hd K hK=>?_) (fun v16=>?_)
   ·obtain ⟨h1,A1,p1,e,t1,c1,n1⟩:=hd 15 (by kernel_rfl);obtain rfl:v15=_:=e;go_simp;exact hK _ _ hC K_ ⟨h1,A1,p1,rfl,t1,c1,n1⟩
   simp only [ly];refine rA rfl (fun w=>KeepS.refl w) (fun xw hd K hK=>?_) (fun v17=>?_)
   ·obtain ⟨h1,A1,p1,e,t1,c1,n1⟩:=hd 15 (by kernel_rfl);obtain rfl:v15=_:=e;go_simp;exact hK _ rfl
   simp only [ly];refine rP rfl rfl (fun xw hC hd K hK=>?_) (fun v18=>?_)
   ·obtain rfl:v1=_:=hd 1 (by kernel_rfl);obtain rfl:v3=_:=hd 3 (by kernel_rfl);go_simp;exact hK _ _ hC K_ rfl
   simp only [ly];refine rP rfl rfl (fun xw hC hd K hK=>?_) (fun v19=>?_)
   ·obtain rfl:v18=_:=hd 18 (by kernel_rfl);go_simp;exact hK _ _ hC K_ rfl
   simp only [ly];refine rS (fun xw hC hd K hK=>?_) (fun v20=>?_)
   ·obtain rfl:v19=_:=hd 19 (by kernel_rfl);obtain ⟨h1,A1,p1,e,t1,c1,n1⟩:=hd 16 (by kernel_rfl);obtain rfl:v16=_:=e;have hC':Below W10.heap.size W10 xw:=hC;have HC6:=HC10.out.step hC';have hth:=LW.there HC6.files (i:=j) hjl (p:=2) (n:=4) (by omega);refine wp_of_list (ops:=#[]) rfl (wpList_store_mid rfl 72 (.tmp 74) (.tmp 71) rfl gf (j*15+2) #[.int .i64 (h1:Int),.slice A1 (cano h1 (setR y.c x.page v).1).kids.length p1,.int .i64 (cano h1 (setR y.c x.page v).1).val,.int .i64 (cano h1 (setR y.c x.page v).1).marks] rfl rfl hth tree_size (tree_one _ _ _ _ _ _) ?_);refine hK undef _ ⟨HC6.putFiles (gb_setCells xw gf (j*15+2) _) (LW.tree HC6.files HU.out.fl (setR_leafy HLf.out _ _) t1 c1 n1) (by simp),?_,?_,?_,?_,?_⟩ (KeepS.of_setCells _ _ _ _ (fun h=>h.2.1 rfl)) trivial
    ·exact (heap_setCells gf _ (j*15+2) xw X (by omega)).trans (bk_step HO10.out hC')
    ·exact (heap_setCells gf _ (j*15+2) xw (w.heap.size+1) (by omega)).trans (bk_step HR10.out hC')
    ·exact (heap_setCells gf _ (j*15+2) xw (w.heap.size+1+1) (by omega)).trans (bk_step HF10.out hC')
    ·exact (heap_setCells gf _ (j*15+2) xw w.heap.size (by omega)).trans (bk_step HX10.out hC')
    ·exact bl_setCells (bl_step HW10.out hC') (by omega) _ _
   simp only [ly];refine relWalkA_nil ?_;intro wz hD hG;clear hG;go_wp2;go_meet
   case rel=>exact hD
  case rest=>
   clear hlb z2 z3 z4 z5 hset HC10 HO10 HX10 HR10 HF10 HW10 hs10 HC8 HO8 HX8 HR8 HF8 HW8 hs8;clear x0 x1 x2 x3 x4 x5 x6 f0 f1 f2 f3 f4 f5 f6 f7 f8 o0 o1 o4 hlx hlf hlo;obtain ⟨hC12,hO12,hR12,hF12,hX12,hW12⟩:=hcut;have HC12:=H_ hC12;have HO12:=H_ hO12;have HR12:=H_ hR12;have HF12:=H_ hF12;have HX12:=H_ hX12;have HW12:=H_ hW12;clear hC12 hO12 hR12 hF12 hX12 hW12;obtain ⟨o0,o1,o2,o3,o4,o5,o6⟩:=cs7 HO12.out;have HTh:=H_ (LW.there HC12.out.frames hil (p:=0) (n:=9) (by omega));rw [Nat.add_zero] at HTh
   go_upto_region 9 with (first
    | (refine wpList_store_mid rfl 55 (.tmp 80) (.tmp 79) rfl gr' (i*9) #[.int .i64 (-1),.int .i64 0,.string ⟨#[]⟩,.int .i64 0,.int .i64 0,.int .i64 0,.int .i64 0,.int .i64 0,.int .i64 0] rfl rfl HTh.out fr_size (fr_one frNo) ?_)
    | fail)
   have HC13:=H_ (HC12.out.frame hil frNo);rw [show frNo.row=[.int .i64 (-1),.int .i64 0,.string ⟨#[]⟩,.int .i64 0,.int .i64 0,.int .i64 0,.int .i64 0,.int .i64 0,.int .i64 0] from rfl] at HC13;have HO13:=H_ ((heap_setCells gr' [.int .i64 (-1),.int .i64 0,.string ⟨#[]⟩,.int .i64 0,.int .i64 0,.int .i64 0,.int .i64 0,.int .i64 0,.int .i64 0] (i*9) wc X (by omega)).trans HO12.out);have HR13:=H_ ((heap_setCells gr' [.int .i64 (-1),.int .i64 0,.string ⟨#[]⟩,.int .i64 0,.int .i64 0,.int .i64 0,.int .i64 0,.int .i64 0,.int .i64 0] (i*9) wc (w.heap.size+1) (by omega)).trans HR12.out);have HW13:=H_ (bl_setCells HW12.out (by omega:w.heap.size≤gr') (i*9) [.int .i64 (-1),.int .i64 0,.string ⟨#[]⟩,.int .i64 0,.int .i64 0,.int .i64 0,.int .i64 0,.int .i64 0,.int .i64 0]);generalize wc.setCells gr' (i*9) _=W13 at HC13 HO13 HR13 HW13;clear o0 o1 o2 o3 o4 o5 o6 HTh;obtain ⟨x0,x1,x2,x3,x4,x5,x6⟩:=cs7 HO13.out
   go_wp2_with (refine st_ck rfl (.tmp 6) (.tmp 81) rfl rfl (w.heap.size+1) rfl rfl HR13.out rfl ?_)
   show bodyPost Tryz.prog Tryz.f97 _ _ _ _
   refine bodyPost_ret (ck_res rfl _ _ (w.heap.size+1) _ _ _ _ _ _ _ _ _ rfl (setRow_heap _ _ _ _ _ _ HR13.out)) rfl ?_;refine ⟨gf,_,cf,gr',_,cr,_,_,gl,nl,cl,gk,nk,ck,_,rfl,?_,bl_setRow HW13.out (by omega) _⟩;exact (HC13.out.setRow (w.heap.size+1) _ (fun hz=>(s1 _ (sx1 _ hz).1).2.2 rfl) (by omega)).weak (by omega) (fun z hz=>(s1 z (sx1 z hz).1).1) hS
end
section
def shA (c:Int):Int:=if 0≤c∧c≤1000000 then -(c+1) else 0
def shE (c:Int):Int:=if 0≤c∧c≤1000000 then 0 else 2
def stA (s:Int):Int:=if s<0∧-1000001≤s then -s - 1 else 0
def stB (s:Int):Bool:=decide (s<0∧-1000001≤s)
def diA (c s:Int):Int:=if (0≤c∧c≤1000000)∧(stB s=true∧stA s<c) then c - stA s else 0
def diE (c s:Int):Int:=if 0≤c∧c≤1000000 then (if stB s=true∧stA s<c then 0 else 1) else 2
def acB (c s a:Int):Bool:=diE c s == 0&&decide (diA c s≤a)
theorem ret_two {k l:IntKind} {a b c d:Int} (h:a=b) (h':c=d):Ending.returned (.tuple #[.int k a,.int l c]) = .returned (.tuple #[.int k b,.int l d]):=by rw [h,h']
theorem ret_ib {k:IntKind} {a b:Int} {c d:Bool} (h:a=b) (h':c=d):Ending.returned (.tuple #[.int k a,.bool c]) = .returned (.tuple #[.int k b,.bool d]):=by rw [h,h']
def TwoI (a b:Int) (w:World) (e:Ending) (w':World):Prop:=e = .returned (.tuple #[.int .i64 a,.int .i64 b])∧w=w'
def IntB (a:Int) (b:Bool) (w:World) (e:Ending) (w':World):Prop:=e = .returned (.tuple #[.int .i64 a,.bool b])∧w=w'
def OneB (b:Bool) (w:World) (e:Ending) (w':World):Prop:=e = .returned (.bool b)∧w=w'
theorem rstamp_w (s:Int) (w:World):Calls Tryz.prog 152 #[.int .i64 s] w (IntB (stA s) (stB s) w):=by
 by_cases h:s<0∧-1000001≤s
 ·obtain ⟨h1,h2⟩:=h;go_enter Tryz.func152,Tryz.ntmps152;go_wp2
  go_ret2
  exact ⟨ret_ib (by simp [stA,h1,h2]) (by simp [stB,h1,h2]),rfl⟩
 ·go_enter Tryz.func152,Tryz.ntmps152;go_wp2
  all_goals go_ret2
  all_goals exact ⟨ret_ib (by simp [stA,h]) (by simp [stB,h]),rfl⟩
theorem rshadow_w (c:Int) (w:World):Calls Tryz.prog 96 #[.int .i64 c] w (TwoI (shA c) (shE c) w):=by
 by_cases h:0≤c∧c≤1000000
 ·obtain ⟨h1,h2⟩:=h;go_enter Tryz.func96,Tryz.ntmps96;go_wp2
  go_ret2
  exact ⟨ret_two (by simp [shA,h1,h2]) (by simp [shE,h1,h2]),rfl⟩
 ·go_enter Tryz.func96,Tryz.ntmps96;go_wp2
  all_goals go_ret2
  all_goals exact ⟨ret_two (by simp [shA,h]) (by simp [shE,h]),rfl⟩
theorem rdistance_w (c s:Int) (w:World):Calls Tryz.prog 119 #[.int .i64 c,.int .i64 s] w (TwoI (diA c s) (diE c s) w):=by
 by_cases h:0≤c∧c≤1000000
 ·have hs:0≤stA s∧stA s≤1000000:=by unfold stA;split <;> omega
  obtain ⟨h1,h2⟩:=h;obtain ⟨h3,h4⟩:=hs
  by_cases hb:stB s=true
  ·by_cases hl:stA s<c
   ·go_enter Tryz.func119,Tryz.ntmps119
    go_wp2_with (go_at_call 152;refine (rstamp_w _ _).mono ?_;rintro e w' ⟨rfl,rfl⟩)
    all_goals go_ret2
    all_goals exact ⟨ret_two (by simp [diA,h1,h2,hb,hl]) (by simp [diE,h1,h2,hb,hl]),rfl⟩
   ·go_enter Tryz.func119,Tryz.ntmps119
    go_wp2_with (go_at_call 152;refine (rstamp_w _ _).mono ?_;rintro e w' ⟨rfl,rfl⟩)
    all_goals go_ret2
    all_goals exact ⟨ret_two (by simp [diA,h1,h2,hb];omega) (by simp [diE,h1,h2,hb];omega),rfl⟩
  ·simp only [Bool.not_eq_true] at hb;go_enter Tryz.func119,Tryz.ntmps119
   go_wp2_with (go_at_call 152;refine (rstamp_w _ _).mono ?_;rintro e w' ⟨rfl,rfl⟩)
   all_goals go_ret2
   all_goals exact ⟨ret_two (by simp [diA,hb]) (by simp [diE,h1,h2,hb]),rfl⟩
 ·have hd:decide (0≤c∧c≤1000000)=false:=by simpa using h
  go_enter Tryz.func119,Tryz.ntmps119
  go_wp2_with (go_at_call 152;refine (rstamp_w _ _).mono ?_;rintro e w' ⟨rfl,rfl⟩)
  all_goals go_ret2
  all_goals exact ⟨ret_two (by simp [diA,h]) (by simp [diE,h]),rfl⟩
theorem ractivate_w (c s a:Int) (w:World):Calls Tryz.prog 70 #[.int .i64 c,.int .i64 s,.int .i64 a] w (OneB (acB c s a) w):=by
 go_enter Tryz.func70,Tryz.ntmps70
 go_wp2_with (go_at_call 119;refine (rdistance_w _ _ _).mono ?_;rintro e w' ⟨rfl,rfl⟩)
 all_goals go_ret
 all_goals exact ⟨ret_bool (by simp_all [acB]),rfl⟩
end
end Go.Proofs.YthhekebemmckcaaGreatDoor
