/-
  Lemmas and contracts for the laws of synchronisations (layer 43), part 37; several texts joined by a program.
-/
import Derived.Test.YthhekebemmckcaaGreatDoorJ01
import Derived.Test.YthhekebemmckcaaGreatDoorJ31
namespace Go.Proofs.YthhekebemmckcaaGreatDoor
set_option linter.unusedVariables false
set_option linter.unusedSimpArgs false
set_option maxRecDepth 100000
set_option maxHeartbeats 16000000
open Go.RowKit
section
variable {F G Z:Nat}
theorem takeI_ok {L:List Zn} {u:Bool}:∀{p i:Nat},takeI L u p=some i→∃z,L[i]?=some z∧canZ z u=true
 | 0,i,h=>by simp [takeI] at h
 | p+1,i,h=>by
  simp only [takeI] at h
  cases hz:L[p]? with
  | none=>rw [hz] at h;cases h
  | some z=>
   rw [hz] at h
   dsimp only at h
   split at h
   ·rename_i hc
    injection h with h
    subst h;exact ⟨z,hz,hc⟩
   ·exact takeI_ok h
theorem takeZ_ok {L:List Zn} {u:Bool} {p:Nat} (hok:ZonesOk L) (h:(takeZ L u p).2.2=0):∃k z,L[k]?=some z∧z.free≠[]∧takeZ L u p=(L.set k {z with free:=z.free.drop 1},z.free.headD 0,0):=by
 unfold takeZ at h ⊢
 cases ht:takeI L u (p+1) with
 | none=>rw [ht] at h;simp at h
 | some k=>
  obtain ⟨z,hz,hc⟩:=takeI_ok ht
  dsimp only
  rw [hz];refine ⟨k,z,hz,fun e=>?_,rfl⟩;have:=(hok.each k z hz).wm;unfold canZ at hc;rw [e] at hc;simp at hc;omega
def insPg (y:Fl) (p:Nat):Pg:=if holeB y p then holeG else newG
theorem newG_ok:PgOk newG:=⟨rfl,⟨by decide,by decide⟩,⟨by decide,by decide⟩,by decide⟩
theorem holeG_ok:PgOk holeG:=⟨rfl,⟨by decide,by decide⟩,⟨by decide,by decide⟩,by decide⟩
theorem insPg_ok (y:Fl) (p:Nat):PgOk (insPg y p):=by unfold insPg;split;exact holeG_ok;exact newG_ok
def insC (C:Ck) (j p t i:Nat) (y:Fl) (l:Lr) (gp:Gr) (zs:List Zn) (ac:Bool):Ck:=
 {files:=C.files.set j {y with c:=(setR y.c p ((i:Int)+1)).1},frames:=C.frames.set i ⟨j,p,insPg y p,t,0,0,0⟩,zones:=zs,groups:=(chargeL C.groups t gp 1).1,lists:=C.lists.set t (addL l ((i:Int)+1) ac),clocks:=C.clocks,ptes:=C.ptes}
def InP (C:Ck) (j p t k:Nat) (u:Bool) (y:Fl) (l:Lr) (gp:Gr) (C':Ck) (n err:Int):Prop:=
 (err≠0∧C'=C∧(0<getR y.c p∨(chargeL C.groups t gp 1).2≠0∨(takeZ C.zones u k).2.2≠0))∨(err=0∧getR y.c p≤0∧∃(i:Nat) (ac:Bool),n=(i:Int)+1∧(takeZ C.zones u k).2.1=(i:Int)+1∧(takeZ C.zones u k).2.2=0∧C'=insC C j p t i y l gp (takeZ C.zones u k).1 ac)
theorem InP.inv {C C':Ck} {j p t k:Nat} {u:Bool} {y:Fl} {l:Lr} {gp:Gr} {n err:Int} (h:InP C j p t k u y l gp C' n err) (hI:Inv F G Z C) (hj:C.files[j]?=some y) (hp:p<8) (ht:t<G) (hl:C.lists[t]?=some l) (hg:C.groups[t]?=some gp) :
  Inv F G Z C'∧(err=0→∃(i:Nat) (x:Fr) (y':Fl),n=(i:Int)+1∧C'.files[j]?=some y'∧FrU C' i x j y'∧x.page=p∧y'.size=y.size∧getR y'.c p=(i:Int)+1):=by
 rcases h with ⟨he,rfl,_⟩ | ⟨_,hno,i,ac,rfl,h1,h2,rfl⟩
 ·exact ⟨hI,fun h=>absurd h he⟩
 ·obtain ⟨k',z,hz,hne,hT⟩:=takeZ_ok hI.zok h2;rw [hT] at h1;have htg:=hI.few;have hk:FrOk ⟨j,p,insPg y p,t,0,0,0⟩:=⟨⟨by show (0:Int)≤p;omega,by show (p:Int)<8;omega⟩,⟨by show (0:Int)≤t;omega,by show (t:Int)<2;omega⟩,insPg_ok y p,⟨by show (0:Int)≤0;omega,by show (0:Int)≤255;omega⟩,⟨by show (0:Int)≤0;omega,by show (0:Int)≤3;omega⟩,⟨by show (0:Int)≤0;omega,by show (0:Int)≤3;omega⟩⟩;obtain ⟨i0,x0,e1,e2,_⟩:=hI.free k' z hz ((i:Int)+1) (by
   cases hf:z.free with
   | nil=>exact absurd hf hne
   | cons a b=>rw [hf] at h1;have h1:a=_:=h1;rw [h1];exact List.mem_cons_self ..)
  obtain rfl:i0=i:=by omega
  have hv:=hI.insert (x0:=frNo) (t:=t) hj (p:=(p:Int)) ⟨by omega,by omega⟩ hno hz h1 hne hl hg hk rfl rfl (by show (t:Int)<G;omega) ac;have hC:insC C j p t i0 y l gp (takeZ C.zones u k).1 ac={files:=C.files.set j {y with c:=(setR y.c p ((i0:Int)+1)).1},frames:=C.frames.set i0 ⟨j,p,insPg y p,t,0,0,0⟩,zones:=C.zones.set k' {z with free:=z.free.drop 1},groups:=(chargeL C.groups t gp 1).1,lists:=C.lists.set t (addL l ((i0:Int)+1) ac),clocks:=C.clocks,ptes:=C.ptes}:=by unfold insC;rw [hT]
  rw [hC];refine ⟨hv,fun _=>⟨i0,_,_,rfl,get_self hj,⟨get_self e2,get_self hj,rfl,hk⟩,rfl,rfl,?_⟩⟩
  show getR (setR y.c p ((i0:Int)+1)).1 p=_
  rw [getR_setR (by unfold inB;simp;omega),if_pos rfl]
def RetIn (P:Ck→Int→Int→Prop) (S:Nat→Prop) (w:World) (en:Ending) (w':World):Prop:=∃C' n err a b c d e f g,P C' n err∧en = .returned (.tuple #[ckV a b c d e f g,.int .i64 n,.int .i64 err])∧CkAt w' S a b c d e f g C'∧Below w.heap.size w w'
theorem ck3_res {fn:Func} {p q r:Tmp} (h:fn.results=#[.cell p 30,.tmp q,.tmp r]) (tmps:Array Value) (w:World) (g:Nat) (t:TypeId) (x0 x1 x2 x3 x4 x5 x6:Value) (fr:Nat × Nat) (u v:Value)
  (hp:tmps.getD p undef = .pointer (some ⟨g,0,none⟩)) (hq:tmps.getD q undef=u) (hr:tmps.getD r undef=v) (hg:w.heap[g]?=some (.cells #[x0,x1,x2,x3,x4,x5,x6] t fr)):(results fn tmps).run Tryz.prog w = .ok (.tuple #[ckV x0 x1 x2 x3 x4 x5 x6,u,v]) w:=by
 have hp':tmps[p]?.getD undef = .pointer (some ⟨g,0,none⟩):=by simpa using hp
 have hq':tmps[q]?.getD undef=u:=by simpa using hq
 have hr':tmps[r]?.getD undef=v:=by simpa using hr
 simp [results,h,hp',hq',hr',asAddr,run_loadVar_row w g t 30 #[x0,x1,x2,x3,x4,x5,x6] fr _ hg Tryz.underlying30 rfl ck_size]
theorem CpL.setRowX {w:World} {S:Nat→Prop} {B gf nf cf gr nr cr gl nl cl gk nk ck:Nat} {c d g:Value} {C:Ck} (h:CpL w S B gf nf cf gr nr cr c d gl nl cl gk nk ck g C) (X:Nat) (cs:Array Value) (hX:¬S X) (hB:gk<X):CpL (w.setRow X cs) S B gf nf cf gr nr cr c d gl nl cl gk nk ck g C:=by
 have o1:=h.o1;have o2:=h.o2;have o3:=h.o3;have o4:=h.o4;exact h.kept (KeepS.of_setRow w X cs fun hz=>hX hz.1) (setRow_other w X gf cs (by omega)) (setRow_other w X gr cs (by omega)) (setRow_other w X gl cs (by omega)) (setRow_other w X gk cs (by omega))
theorem insert_w40 (C:Ck) (j p t k:Nat) (u:Bool) (y:Fl) (l:Lr) (gp:Gr) (clk:Int) (a b c d e f g:Value) (S:Nat→Prop) (w:World) (h:CkAt w S a b c d e f g C) (hI:Inv F G Z C) (hj:C.files[j]?=some y) (hp:p<8) (hl:C.lists[t]?=some l) (hg:C.groups[t]?=some gp) (hck:C.clocks[t]?=some clk) (hk:k<C.zones.length) (hS:∀z,w.heap.size≤z→S z) :
  Calls Tryz.prog 37 #[ckV a b c d e f g,.int .i64 j,.int .i64 p,.int .i64 t,.int .i64 k,.bool u] w (RetIn (InP C j p t k u y l gp) S w):=by
 obtain ⟨S1,s1,s2,s3⟩:=s1set hS;replace h:=h.weak s3;clear s3;have hjl':=(g_l hj);have hhf:=fun w' (hb:Below w.heap.size w w')=>hasFile_w C j a b c d e f g S1 w' (h.step hb) hjl';have hfd:=fun w' (hb:Below w.heap.size w w')=>find_w40 C j y p a b c d e f g S1 w' (h.step hb) hj;have hch:=fun w' (hb:Below w.heap.size w w') (hz:w.heap.size+1<w'.heap.size)=>charge_w C.groups t gp 1 d S1 w' (h.groups.step hb) hg hI.gok ⟨by omega,by omega⟩ (fun z hz'=>s2 z (by omega));have htk:=fun w' (hb:Below w.heap.size w w') (hz:w.heap.size+1<w'.heap.size)=>take_w C.zones k u c S1 w' (h.zones.step hb) hk hI.zok (fun z hz'=>s2 z (by omega));have hjt:=(g_l hg);have hl0:=hI.ok;have HI:=H_ hI;have HLST:=H_ hl;have HGRP:=H_ hg;have HCLK:=H_ hck;obtain ⟨A1,cf0,rfl,q1,q2⟩:=h.files.form;obtain ⟨A2,m2,c2,rfl⟩:=h.frames.cap;obtain ⟨A3,c3,rfl,_,_⟩:=h.zones.form;obtain ⟨A4,c4,rfl,_,_⟩:=h.groups.form;obtain ⟨A5,m5,c5,rfl⟩:=h.lists.cap;obtain ⟨A6,m6,c6,rfl⟩:=h.clocks.cap;obtain ⟨A7,m7,c7,rfl⟩:=h.ptes.cap;obtain ⟨bf,of,kt,KB,kc,rfl,hbf,k1,k2,k3,k4,hcf⟩:=FlA.cells h.files hj;have HTR:=H_ (show leafy y.c∧TreeOk kt y.c∧(cano kt y.c).kids.length≤kc∧NK w S1 KB (cano kt y.c).kids from ⟨k1,k2,k3,k4⟩);have hl1:C.files.length≤100:=hl0.files.2;have hzl:C.zones.length≤2:=by have:=hI.nz;have:=hI.few;omega
 have hgl:C.groups.length≤2:=by have:=hI.ng;have:=hI.few;omega
 have j2:(j:Int)<(C.files.length:Int):=by omega
 have H:=H_ h;have HJ:=H_ hj;have HCF:=H_ hcf;have i1:(0:Int)≤(p:Int):=by omega
 have i2:(p:Int)<8:=by omega
 have i3:(0:Int)≤(t:Int):=by omega
 have i4:(t:Int)<(C.groups.length:Int):=by omega
 have i5:(0:Int)≤(k:Int):=by omega
 have i6:(k:Int)<(C.zones.length:Int):=by omega
 clear h hI hl hg hck hj hcf k1 k2 k3 k4 hl0;go_enter Tryz.func37,Tryz.ntmps37
 go_upto_region 1 with fail
 generalize hW9:(w.alloc _).alloc _=W;obtain ⟨HX,HR,HW,HZ⟩:=two_box hW9;clear hW9 HZ;obtain ⟨x0,x1,x2,x3,x4,x5,x6⟩:=cs7 HX.out
 go_upto_region 3 with (go_at_call 39;go_loud (refine CM (hhf _ HW.out) ?_);rintro e w1 ⟨rfl,hb1⟩;have HX1:=bkh HX hb1;have HR1:=bkh HR hb1;have HW1:=blh HW hb1;clear hb1 x0 x1 x2 x3 x4 x5 x6;obtain ⟨x0,x1,x2,x3,x4,x5,x6⟩:=cs7 HX1.out)
 clear hhf HX HR HW
 by_cases hv:getR y.c p≤0
 ·have HV:=H_ hv;have hfq:∀w',Below w.heap.size w w'→Calls Tryz.prog 23 #[ckV (.slice (some ⟨bf,of,none⟩) C.files.length cf0) (.slice A2 m2 c2) (.slice A3 C.zones.length c3) (.slice A4 C.groups.length c4) (.slice A5 m5 c5) (.slice A6 m6 c6) (.slice A7 m7 c7),.int .i64 j,.int .i64 p] w' (fun e w''=>e = .returned (.tuple #[.int .i64 0,.bool false])∧Below w'.heap.size w' w''):=fun w' hb=>by
   have:=hfd w' hb;unfold RetFd fdV at this;rw [if_pos hv] at this;exact this
  clear hfd hv
  go_upto_region 7 with (first
   | (go_at_call 23;go_loud (refine CM (hfq _ HW1.out) ?_);rintro e w2 ⟨rfl,hb2⟩;have HX2:=bkh HX1 hb2;have HR2:=bkh HR1 hb2;have HW2:=blh HW1 hb2;clear hb2 x0 x1 x2 x3 x4 x5 x6;obtain ⟨x0,x1,x2,x3,x4,x5,x6⟩:=cs7 HX2.out)
   | (go_at_call 67;go_loud (refine CM (hch _ HW2.out (bk_lt HR2.out)) ?_);rintro e w3 ⟨gv,rfl,hgv,hb3⟩;have HX3:=bkh HX2 hb3;have HR3:=bkh HR2 hb3;have HW3:=blh HW2 hb3;have HGV3:=H_ hgv;clear hgv hb3)
   | fail)
  obtain ⟨Pg,ng,rg,hgve⟩:=HGV3.out.cap;subst hgve;clear x0 x1 x2 x3 x4 x5 x6 HX1 HR1 HW1 HX2 HR2 HW2 hch hfq;obtain ⟨x0,x1,x2,x3,x4,x5,x6⟩:=cs7 HX3.out
  by_cases hc0:(chargeL C.groups t gp 1).2=0
  ·have d1:((chargeL C.groups t gp 1).2 != 0)=false:=by rw [hc0];rfl
   have HC0:=H_ hc0;clear hc0
   go_upto_region 10 with (first
    | (go_at_call 68;go_loud (refine CM (htk _ HW3.out (bk_lt HR3.out)) ?_);rintro e w4 ⟨zv,rfl,hzv,hb4⟩;have HX4:=bkh HX3 hb4;have HR4:=bkh HR3 hb4;have HW4:=blh HW3 hb4;have HGV4:=H_ (HGV3.out.step hb4);have HZV4:=H_ hzv;clear hzv hb4)
    | fail)
   obtain ⟨Pz,nz,rz,hzve⟩:=HZV4.out.cap;subst hzve;clear x0 x1 x2 x3 x4 x5 x6 HX3 HR3 HW3 HGV3 htk d1;obtain ⟨x0,x1,x2,x3,x4,x5,x6⟩:=cs7 HX4.out
   by_cases ht0:(takeZ C.zones u k).2.2=0
   ·have d2:((takeZ C.zones u k).2.2 != 0)=false:=by rw [ht0];rfl
    have HT0:=H_ ht0;obtain ⟨k',z',hzk,hzne,hTZ⟩:=takeZ_ok HI.out.zok ht0;obtain ⟨i,xf,hin,hxf,_⟩:=HI.out.free k' z' hzk (takeZ C.zones u k).2.1 (by
     rw [hTZ]
     cases hf:z'.free with
     | nil=>exact absurd hf hzne
     | cons a b=>exact List.mem_cons_self ..)
    rw [hin];have HIN:=H_ hin;have hil:=(g_l hxf);have ii2:(i:Int)<(C.frames.length:Int):=by omega
    have hnr:=HI.out.nr;clear ht0 hzk hzne hTZ hin hxf;have hz4:w.heap.size+1<w4.heap.size:=bk_lt HR4.out;have hcp:=copyL_w C _ _ _ _ _ _ _ S1 w4 (H.out.step HW4.out) HI.out.ok (fun z hz=>s2 z (by omega))
    go_upto_region 13 with (go_at_call 69;go_loud (refine CM hcp ?_);rintro e w5 ⟨gf,nf,cf,gr',nr,cr,c',d',gl,nl,cl,gk,nk,ck,g',rfl,hc5,hb5⟩;obtain ⟨P3,n3,r3,rfl⟩:=hc5.zones.cap;obtain ⟨P4,n4,r4,rfl⟩:=hc5.groups.cap;obtain ⟨P7,n7,r7,rfl⟩:=hc5.ptes.cap)
    obtain ⟨X,hX⟩:∃X,X=w5.heap.size:=⟨_,rfl⟩;obtain ⟨Sx,hSx⟩:∃Sx:Nat→Prop,Sx=fun z=>S1 z∧z≠X:=⟨_,rfl⟩;have sx1:∀z,Sx z→S1 z∧z≠X:=fun z hz=>by rw [hSx] at hz;exact hz
    have hXz:w4.heap.size≤X∧gk<X:=⟨by have:=hb5.size;omega,by rw [hX];exact hc5.lt⟩;have sx2:∀z,X<z→Sx z:=fun z hz=>by rw [hSx];exact ⟨s2 z (by omega),by omega⟩
    have hord:w4.heap.size≤gf∧gf<gr'∧gr'<gl∧gl<gk:=⟨hc5.o1,hc5.o2,hc5.o3,hc5.o4⟩;have HT:=H_ (H.out.weak (S':=TS Sx gf gr' gl gk) (fun z hz h=>⟨by rw [hSx];exact ⟨h,by omega⟩,by omega,by omega,by omega,by omega⟩));have upT:∀z,z<w4.heap.size→S1 z→TS Sx gf gr' gl gk z:=fun z hz h=>⟨by rw [hSx];exact ⟨h,by omega⟩,by omega,by omega,by omega,by omega⟩;have hb5a:=bl_alloc (Below.refl w5.heap.size w5) (.cells #[.slice (some ⟨gf,0,none⟩) nf cf,.slice (some ⟨gr',0,none⟩) nr cr,.slice P3 n3 r3,.slice P4 n4 r4,.slice (some ⟨gl,0,none⟩) nl cl,.slice (some ⟨gk,0,none⟩) nk ck,.slice P7 n7 r7] 30);have HGV5:=H_ (((HGV4.out.weak upT).step hb5).step hb5a);have HZV5:=H_ (((HZV4.out.weak upT).step hb5).step hb5a);have HC6:=H_ (show CpL (w5.alloc (.cells #[.slice (some ⟨gf,0,none⟩) nf cf,.slice (some ⟨gr',0,none⟩) nr cr,.slice P3 n3 r3,.slice P4 n4 r4,.slice (some ⟨gl,0,none⟩) nl cl,.slice (some ⟨gk,0,none⟩) nk ck,.slice P7 n7 r7] 30)) Sx w4.heap.size gf nf cf gr' nr cr (.slice P3 n3 r3) (.slice P4 n4 r4) gl nl cl gk nk ck (.slice P7 n7 r7) C by rw [hSx];exact (hc5.but X (by omega)).step (bl_alloc B_ _));have HO6:=H_ (heap_at_new w5 (.cells #[.slice (some ⟨gf,0,none⟩) nf cf,.slice (some ⟨gr',0,none⟩) nr cr,.slice P3 n3 r3,.slice P4 n4 r4,.slice (some ⟨gl,0,none⟩) nl cl,.slice (some ⟨gk,0,none⟩) nk ck,.slice P7 n7 r7] 30) X hX.symm);have HX6:=H_ (bk_alloc (bk_step HX4.out hb5) (.cells #[.slice (some ⟨gf,0,none⟩) nf cf,.slice (some ⟨gr',0,none⟩) nr cr,.slice P3 n3 r3,.slice P4 n4 r4,.slice (some ⟨gl,0,none⟩) nl cl,.slice (some ⟨gk,0,none⟩) nk ck,.slice P7 n7 r7] 30));have HR6:=H_ (bk_alloc (bk_step HR4.out hb5) (.cells #[.slice (some ⟨gf,0,none⟩) nf cf,.slice (some ⟨gr',0,none⟩) nr cr,.slice P3 n3 r3,.slice P4 n4 r4,.slice (some ⟨gl,0,none⟩) nl cl,.slice (some ⟨gk,0,none⟩) nk ck,.slice P7 n7 r7] 30));have HW6:=H_ (bl_alloc (bl_step HW4.out hb5) (.cells #[.slice (some ⟨gf,0,none⟩) nf cf,.slice (some ⟨gr',0,none⟩) nr cr,.slice P3 n3 r3,.slice P4 n4 r4,.slice (some ⟨gl,0,none⟩) nl cl,.slice (some ⟨gk,0,none⟩) nk ck,.slice P7 n7 r7] 30))
    have hs6:(w5.alloc (.cells #[.slice (some ⟨gf,0,none⟩) nf cf,.slice (some ⟨gr',0,none⟩) nr cr,.slice P3 n3 r3,.slice P4 n4 r4,.slice (some ⟨gl,0,none⟩) nl cl,.slice (some ⟨gk,0,none⟩) nk ck,.slice P7 n7 r7] 30)).heap.size=X+1:=by simp [hX]
    rw [←hX];generalize w5.alloc (.cells #[.slice (some ⟨gf,0,none⟩) nf cf,.slice (some ⟨gr',0,none⟩) nr cr,.slice P3 n3 r3,.slice P4 n4 r4,.slice (some ⟨gl,0,none⟩) nl cl,.slice (some ⟨gk,0,none⟩) nk ck,.slice P7 n7 r7] 30)=W6 at HC6 HO6 HX6 HR6 HW6 hs6 HGV5 HZV5 hb5a;have hfr:∀w':World,X+1≤w'.heap.size→∀z,w'.heap.size≤z→TS Sx gf gr' gl gk z:=fun w' hw' z hz=>⟨sx2 z (by omega),by omega,by omega,by omega,by omega⟩;have hnf:j<nf∧nf≤1000:=⟨by rw [←HC6.out.ef];exact hjl',by rw [←HC6.out.ef];omega⟩;have hnr':i<nr∧nr≤1000:=⟨by rw [←HC6.out.er];exact hil,by rw [←HC6.out.er];omega⟩;have htl:=(g_l HLST.out);have htk':=(g_l HCLK.out);have hnl:t<nl∧nl≤1000:=⟨by rw [←HC6.out.el];exact htl,by rw [←HC6.out.el];have:=HI.out.ok.lists.2;omega⟩;have nX:¬Sx X:=fun hz=>(sx1 _ hz).2 rfl;clear hX hSx hc5 hb5 hb5a hcp HX4 HR4 HW4 HGV4 HZV4 x0 x1 x2 x3 x4 x5 x6 upT;have o2:=cells_at HO6.out 2;have o2f:=free_at HO6.out 2;have o3:=cells_at HO6.out 3;have o3f:=free_at HO6.out 3
    go_upto_region 14 with fail
    have HO7:=H_ (show (W6.setCell ⟨X,3,none⟩ (.slice Pg ng rg)).heap[X]?=some (.cells #[.slice (some ⟨gf,0,none⟩) nf cf,.slice (some ⟨gr',0,none⟩) nr cr,.slice P3 n3 r3,.slice Pg ng rg,.slice (some ⟨gl,0,none⟩) nl cl,.slice (some ⟨gk,0,none⟩) nk ck,.slice P7 n7 r7] 30 (0,0)) from set_same HO6.out _);have HO8:=H_ (show ((W6.setCell ⟨X,3,none⟩ (.slice Pg ng rg)).setCell ⟨X,2,none⟩ (.slice Pz nz rz)).heap[X]?=some (.cells #[.slice (some ⟨gf,0,none⟩) nf cf,.slice (some ⟨gr',0,none⟩) nr cr,.slice Pz nz rz,.slice Pg ng rg,.slice (some ⟨gl,0,none⟩) nl cl,.slice (some ⟨gk,0,none⟩) nk ck,.slice P7 n7 r7] 30 (0,0)) from set_same HO7.out _);have HX8:=H_ ((Below.heap_setCell (W6.setCell ⟨X,3,none⟩ (.slice Pg ng rg)) ⟨X,2,none⟩ (.slice Pz nz rz) (w.heap.size) (by show w.heap.size≠X;omega)).trans ((Below.heap_setCell W6 ⟨X,3,none⟩ (.slice Pg ng rg) (w.heap.size) (by show w.heap.size≠X;omega)).trans HX6.out));have HR8:=H_ ((Below.heap_setCell (W6.setCell ⟨X,3,none⟩ (.slice Pg ng rg)) ⟨X,2,none⟩ (.slice Pz nz rz) (w.heap.size+1) (by show w.heap.size+1≠X;omega)).trans ((Below.heap_setCell W6 ⟨X,3,none⟩ (.slice Pg ng rg) (w.heap.size+1) (by show w.heap.size+1≠X;omega)).trans HR6.out));have HW8:=H_ (bl_set (bl_set HW6.out ⟨X,3,none⟩ (.slice Pg ng rg) (by show w.heap.size≤X;omega)) ⟨X,2,none⟩ (.slice Pz nz rz) (by show w.heap.size≤X;omega));have HC8:=H_ (((HC6.out.with_ HZV5.out HGV5.out HC6.out.ptes).setCellX X 3 (.slice Pg ng rg) nX hXz.2).setCellX X 2 (.slice Pz nz rz) nX hXz.2);have hs8:X+1≤((W6.setCell ⟨X,3,none⟩ (.slice Pg ng rg)).setCell ⟨X,2,none⟩ (.slice Pz nz rz)).heap.size:=by simp [World.setCell];omega
    generalize (W6.setCell ⟨X,3,none⟩ (.slice Pg ng rg)).setCell ⟨X,2,none⟩ (.slice Pz nz rz)=W8 at HO8 HX8 HR8 HW8 HC8 hs8;clear o2 o2f o3 o3f HC6 HO6 HX6 HR6 HW6 hs6 HO7 HGV5 HZV5;have hcf:=HCF.out;have z0:W8.cell? ⟨bf,of+j*15,none⟩=some (.int .i64 y.dev):=(cell_kept (HW8.out.block _ hbf)).trans (hcf 0 _ rfl);have z1:W8.cell? ⟨bf,of+j*15+1,none⟩=some (.int .i64 y.slot):=(cell_kept (HW8.out.block _ hbf)).trans (hcf 1 _ rfl);have z2:W8.cell? ⟨bf,of+j*15+2,none⟩=some (.int .i64 kt):=(cell_kept (HW8.out.block _ hbf)).trans (hcf 2 _ rfl);have z3:W8.cell? ⟨bf,of+j*15+3,none⟩=some (.slice KB (cano kt y.c).kids.length kc):=(cell_kept (HW8.out.block _ hbf)).trans (hcf 3 _ rfl);have z4:W8.cell? ⟨bf,of+j*15+4,none⟩=some (.int .i64 (cano kt y.c).val):=(cell_kept (HW8.out.block _ hbf)).trans (hcf 4 _ rfl);have z5:W8.cell? ⟨bf,of+j*15+5,none⟩=some (.int .i64 (cano kt y.c).marks):=(cell_kept (HW8.out.block _ hbf)).trans (hcf 5 _ rfl);have z6:W8.cell? ⟨bf,of+j*15+6,none⟩=some (.int .i64 y.size):=(cell_kept (HW8.out.block _ hbf)).trans (hcf 6 _ rfl);have z7:W8.cell? ⟨bf,of+j*15+7,none⟩=some (.int .i64 y.blocks):=(cell_kept (HW8.out.block _ hbf)).trans (hcf 7 _ rfl);have z8:W8.cell? ⟨bf,of+j*15+8,none⟩=some (.int .i64 y.ecnt):=(cell_kept (HW8.out.block _ hbf)).trans (hcf 8 _ rfl);have z9:W8.cell? ⟨bf,of+j*15+9,none⟩=some (.int .i64 y.eerr):=(cell_kept (HW8.out.block _ hbf)).trans (hcf 9 _ rfl);have za:W8.cell? ⟨bf,of+j*15+10,none⟩=some (.int .i64 y.sseq):=(cell_kept (HW8.out.block _ hbf)).trans (hcf 10 _ rfl);have zb:W8.cell? ⟨bf,of+j*15+11,none⟩=some (.int .i64 y.ssize):=(cell_kept (HW8.out.block _ hbf)).trans (hcf 11 _ rfl);have zc:W8.cell? ⟨bf,of+j*15+12,none⟩=some (.int .i64 y.sblocks):=(cell_kept (HW8.out.block _ hbf)).trans (hcf 12 _ rfl);have zd:W8.cell? ⟨bf,of+j*15+13,none⟩=some (.int .i64 y.which):=(cell_kept (HW8.out.block _ hbf)).trans (hcf 13 _ rfl);have ze:W8.cell? ⟨bf,of+j*15+14,none⟩=some (.int .i64 y.seq):=(cell_kept (HW8.out.block _ hbf)).trans (hcf 14 _ rfl);obtain ⟨x0,x1,x2,x3,x4,x5,x6⟩:=cs7 HX8.out
    have hge:=rGetC_w kt y.c KB kc S1 p W8 HTR.out.1 HTR.out.2.1 HTR.out.2.2.1 (HTR.out.2.2.2.step HW8.out)
    go_upto_region 15 with (go_at_call 40;go_loud (refine CM hge ?_);rintro e w9 ⟨rfl,hb9⟩)
    have HC9:=H_ (HC8.out.step hb9);have HO9:=bkh HO8 hb9;have HX9:=bkh HX8 hb9;have HR9:=bkh HR8 hb9;have HW9:=blh HW8 hb9;have hs9:X+1≤w9.heap.size:=Nat.le_trans hs8 hb9.size;clear hge HC8 HO8 HX8 HR8 HW8 hs8 hb9 z0 z1 z2 z3 z4 z5 z6 z7 z8 z9 za zb zc zd ze x0 x1 x2 x3 x4 x5 x6;obtain ⟨x0,x1,x2,x3,x4,x5,x6⟩:=cs7 HX9.out;obtain ⟨bl,ol,E1,u1,v1,E2,u2,v2,E3,u3,v3,eA5,em5,hbl5,hA,l0,l1,l2⟩:=LlA.cells HT.out.lists HLST.out;obtain ⟨Ae,ce,ele,_,_⟩:=hA.1.form;rw [ele] at l0;rw [eA5,em5] at x4;replace l0:=(cell_kept (HW9.out.block _ hbl5)).trans l0;obtain ⟨bk',ok',capk,ek,_,_,hbk,_,kc0⟩:=IL.cell H.out.clocks HCLK.out;replace kc0:=(cell_kept (HW9.out.block _ hbk)).trans kc0;injection ek with eA6 em6 ec6
    rw [eA6,em6] at x5;have hbX:=bk_lt HX9.out;have hblx:bl<w9.heap.size:=Nat.lt_of_lt_of_le hbl5 HW9.out.size;have hbkx:bk'<w9.heap.size:=Nat.lt_of_lt_of_le hbk HW9.out.size;have hlk2:C.clocks.length≤100:=HI.out.ok.clocks.2;have hll2:C.lists.length≤100:=HI.out.ok.lists.2;have t5:(t:Int)<(C.clocks.length:Int):=by omega
    have t4:(t:Int)<(C.lists.length:Int):=by omega
    have xe:=ext_cell w9;have hac:=fun z=>ractivate_w clk (getR y.c p) (l.act.length:Int) (ext w9 z);clear eA5 em5 eA6 em6 ec6 ele l1 l2 hA
    go_cut [23] (fun s23 wx=>s23 = .bool (acB clk (getR y.c p) (l.act.length:Int))∧∃z,wx=ext w9 z)
    case first=>
     refine wp_region_ext (by kernel_rfl) (by kernel_rfl) ?_
     repeat (go_big_quiet_step ((exact ext_same (hac _))))
     refine wpQuiet_nil ?_;rintro w' ⟨z,rfl⟩;go_wp2;go_meet
     case rel=>exact ⟨rfl,z,rfl⟩
    case rest=>
     obtain ⟨rfl,z,rfl⟩:=hcut;have HC10:=H_ (HC9.out.step (below_ext w9 z));have HO10:=H_ (bk_step HO9.out (below_ext w9 z));have HX10:=H_ (bk_step HX9.out (below_ext w9 z));have HR10:=H_ (bk_step HR9.out (below_ext w9 z));have HW10:=H_ (bl_step HW9.out (below_ext w9 z));have hs10:X+1≤(ext w9 z).heap.size:=Nat.le_trans hs9 (below_ext w9 z).size;have hblx0:bl<(ext w9 z).heap.size:=Nat.lt_of_lt_of_le hblx (below_ext w9 z).size;generalize ext w9 z=W10 at HC10 HO10 HX10 HR10 HW10 hs10 hblx0;clear HC9 HO9 HX9 HR9 HW9 hs9 x0 x1 x2 x3 x4 x5 x6 l0 kc0 hbkx hblx hbX xe hac;obtain ⟨x0,x1,x2,x3,x4,x5,x6⟩:=cs7 HX10.out;have o0:=cells_at HO10.out 0;have o4:=cells_at HO10.out 4;simp only [List.getElem?_toArray,List.getElem?_cons_zero,List.getElem?_cons_succ] at o0 o4;have hlx:=bk_lt HX10.out;have hlo:=bk_lt HO10.out;obtain ⟨bf',of',kt',KB',kc',ebf,hbf',k1,k2,k3,k4,hcf'⟩:=FlA.cells HT.out.files HJ.out;obtain ⟨rfl,rfl⟩:bf=bf'∧of=of':=by injection ebf with e;injection e with e1 e2;exact ⟨e1,e2⟩
     have z2:W10.cell? ⟨bf,of+j*15+2,none⟩=some (.int .i64 kt'):=(cell_kept (HW10.out.block _ hbf)).trans (hcf' 2 _ rfl);have z3:=(cell_kept (HW10.out.block _ hbf)).trans (hcf' 3 _ rfl);have z4:W10.cell? ⟨bf,of+j*15+4,none⟩=some (.int .i64 (cano kt' y.c).val):=(cell_kept (HW10.out.block _ hbf)).trans (hcf' 4 _ rfl);have z5:W10.cell? ⟨bf,of+j*15+5,none⟩=some (.int .i64 (cano kt' y.c).marks):=(cell_kept (HW10.out.block _ hbf)).trans (hcf' 5 _ rfl);have hlb:bf<W10.heap.size:=Nat.lt_of_lt_of_le hbf HW10.out.size;have HLf:=H_ k1;have hset:=fun w' (hb:Below W10.heap.size W10 w')=>rSet_w kt' y.c KB' kc' (TS Sx gf gr' gl gk) p ((i:Int)+1) w' k1 k2 k3 (k4.step (bl_step HW10.out hb)) (hfr w' (Nat.le_trans hs10 hb.size));clear hcf' ebf hbf' k1 k2 k3 k4
     go_upto_region 16 with fail
     go_cut [] (fun wx=>CpL wx Sx w4.heap.size gf nf cf gr' nr cr (.slice Pz nz rz) (.slice Pg ng rg) gl nl cl gk nk ck (.slice P7 n7 r7) (⟨C.files.set j ⟨y.dev,y.slot,(setR y.c p ((i:Int)+1)).1,y.size,y.blocks,y.ecnt,y.eerr,y.sseq,y.ssize,y.sblocks,y.which,y.seq⟩,C.frames,(takeZ C.zones u k).1,(chargeL C.groups t gp 1).1,C.lists,C.clocks,C.ptes⟩:Ck)∧wx.heap[X]?=some (.cells #[.slice (some ⟨gf,0,none⟩) nf cf,.slice (some ⟨gr',0,none⟩) nr cr,.slice Pz nz rz,.slice Pg ng rg,.slice (some ⟨gl,0,none⟩) nl cl,.slice (some ⟨gk,0,none⟩) nk ck,.slice P7 n7 r7] 30 (0,0))∧wx.heap[w.heap.size]?=some (.cells #[.slice (some ⟨bf,of,none⟩) C.files.length cf0,.slice A2 m2 c2,.slice A3 C.zones.length c3,.slice A4 C.groups.length c4,.slice A5 m5 c5,.slice A6 m6 c6,.slice A7 m7 c7] 30 (0,0))∧wx.heap[w.heap.size+1]?=some (oCZ)∧Below w.heap.size w wx)
     case first=>
      refine wp_region_sk (S:=TS Sx gf gr' gl gk) 174 17 (inL [0,1,2,3,4,5,6,7,8,9,10,11,12,13,15,16]) (fun wx=>CpL wx Sx w4.heap.size gf nf cf gr' nr cr (.slice Pz nz rz) (.slice Pg ng rg) gl nl cl gk nk ck (.slice P7 n7 r7) (⟨C.files.set j ⟨y.dev,y.slot,(setR y.c p ((i:Int)+1)).1,y.size,y.blocks,y.ecnt,y.eerr,y.sseq,y.ssize,y.sblocks,y.which,y.seq⟩,C.frames,(takeZ C.zones u k).1,(chargeL C.groups t gp 1).1,C.lists,C.clocks,C.ptes⟩:Ck)∧wx.heap[X]?=some (.cells #[.slice (some ⟨gf,0,none⟩) nf cf,.slice (some ⟨gr',0,none⟩) nr cr,.slice Pz nz rz,.slice Pg ng rg,.slice (some ⟨gl,0,none⟩) nl cl,.slice (some ⟨gk,0,none⟩) nk ck,.slice P7 n7 r7] 30 (0,0))∧wx.heap[w.heap.size]?=some (.cells #[.slice (some ⟨bf,of,none⟩) C.files.length cf0,.slice A2 m2 c2,.slice A3 C.zones.length c3,.slice A4 C.groups.length c4,.slice A5 m5 c5,.slice A6 m6 c6,.slice A7 m7 c7] 30 (0,0))∧wx.heap[w.heap.size+1]?=some (oCZ)∧Below w.heap.size w wx) [SK.eq (.pointer (some ⟨X,0,none⟩)),SK.eq (.slice (some ⟨gf,0,none⟩) nf cf),SK.eq (.int .i64 (j:Int)),SK.eq (.pointer (some ⟨w.heap.size,0,none⟩)),SK.eq (.slice (some ⟨bf,of,none⟩) C.files.length cf0),SK.eq (.int .i64 (j:Int)),SK.eq (.pointer (some ⟨bf,of+j*15,none⟩)),SK.eq (.pointer (some ⟨bf,of+j*15+2,none⟩)),SK.eq (.agg #[.int .i64 kt',.slice KB' (cano kt' y.c).kids.length kc',.int .i64 (cano kt' y.c).val,.int .i64 (cano kt' y.c).marks]),SK.eq (.int .i64 (p:Int)),SK.eq (.int .i64 ((i:Int)+1)),SK.tr2 (TS Sx gf gr' gl gk) (setR y.c p ((i:Int)+1)).1 (setR y.c p ((i:Int)+1)).2 (fun _ h=>h),SK.tr2 (TS Sx gf gr' gl gk) (setR y.c p ((i:Int)+1)).1 (setR y.c p ((i:Int)+1)).2 (fun _ h=>h),SK.tr1 (TS Sx gf gr' gl gk) (setR y.c p ((i:Int)+1)).1 (fun _ h=>h),SK.eq (.int .i64 (setR y.c p ((i:Int)+1)).2),SK.eq (.pointer (some ⟨gf,j*15,none⟩)),SK.eq (.pointer (some ⟨gf,j*15+2,none⟩)),SK.any] (by kernel_rfl) (by kernel_rfl) rfl (fun _=>trivial) ?_;refine rP rfl rfl (fun xw hC hd K hK=>?_) (fun v0=>?_)
      ·go_simp;exact hK _ _ hC K_ rfl
      simp only [ly];refine rP rfl rfl (fun xw hC hd K hK=>?_) (fun v1=>?_)
      ·obtain rfl:v0=_:=hd 0 (by kernel_rfl);have hC':Below W10.heap.size W10 xw:=hC;have u0:=(hC'.cell (p:=⟨X,_,none⟩) hlo).trans o0;go_simp;exact hK _ _ hC K_ rfl
      simp only [ly];refine rP rfl rfl (fun xw hC hd K hK=>?_) (fun v2=>?_)
      ·go_simp;exact hK _ _ hC K_ rfl
      simp only [ly];refine rP rfl rfl (fun xw hC hd K hK=>?_) (fun v3=>?_)
      ·go_simp;exact hK _ _ hC K_ rfl
      simp only [ly];refine rP rfl rfl (fun xw hC hd K hK=>?_) (fun v4=>?_)
      ·obtain rfl:v3=_:=hd 3 (by kernel_rfl);have hC':Below W10.heap.size W10 xw:=hC;have u0:=(hC'.cell (p:=⟨w.heap.size,_,none⟩) hlx).trans x0;go_simp;exact hK _ _ hC K_ rfl
      simp only [ly];refine rP rfl rfl (fun xw hC hd K hK=>?_) (fun v5=>?_)
      ·go_simp;exact hK _ _ hC K_ rfl
      simp only [ly];refine rP rfl rfl (fun xw hC hd K hK=>?_) (fun v6=>?_)
      ·obtain rfl:v4=_:=hd 4 (by kernel_rfl);obtain rfl:v5=_:=hd 5 (by kernel_rfl);go_simp;exact hK _ _ hC K_ rfl
      simp only [ly];refine rP rfl rfl (fun xw hC hd K hK=>?_) (fun v7=>?_)
      ·obtain rfl:v6=_:=hd 6 (by kernel_rfl);go_simp;exact hK _ _ hC K_ rfl
      simp only [ly];refine rP rfl rfl (fun xw hC hd K hK=>?_) (fun v8=>?_)
      ·obtain rfl:v7=_:=hd 7 (by kernel_rfl);have hC':Below W10.heap.size W10 xw:=hC;have u0:=(hC'.cell (p:=⟨bf,_,none⟩) hlb).trans z2;have u1:=(hC'.cell (p:=⟨bf,_,none⟩) hlb).trans z3;have u2:=(hC'.cell (p:=⟨bf,_,none⟩) hlb).trans z4;have u3:=(hC'.cell (p:=⟨bf,_,none⟩) hlb).trans z5;go_simp;exact hK _ _ hC K_ rfl
      simp only [ly];refine rP rfl rfl (fun xw hC hd K hK=>?_) (fun v9=>?_)
      ·go_simp;exact hK _ _ hC K_ rfl
      simp only [ly];refine rP rfl rfl (fun xw hC hd K hK=>?_) (fun v10=>?_)
      ·go_simp;exact hK _ _ hC K_ rfl
      simp only [ly];refine rP rfl rfl (fun xw hC hd K hK=>?_) (fun v11=>?_)
      ·obtain rfl:v8=_:=hd 8 (by kernel_rfl);obtain rfl:v9=_:=hd 9 (by kernel_rfl);obtain rfl:v10=_:=hd 10 (by kernel_rfl);have hC':Below W10.heap.size W10 xw:=hC;go_simp
       go_at_call 71
       refine (hset xw hC').mono ?_;rintro e w1 ⟨h1,A1,p1,rfl,t1,c1,n1,hb⟩;exact hK _ _ (bl_step hC' hb) (KeepS.of_below hb) ⟨h1,A1,p1,rfl,t1,c1,n1⟩
      simp only [ly];refine rP rfl rfl (fun xw hC hd K hK=>?_) (fun v12=>?_)
      ·obtain ⟨h1,A1,p1,e,t1,c1,n1⟩:=hd 11 (by kernel_rfl);obtain rfl:v11=_:=e;go_simp;exact hK _ _ hC K_ ⟨h1,A1,p1,rfl,t1,c1,n1⟩
      simp only [ly];refine rP rfl rfl (fun xw hC hd K hK=>?_) (fun v13=>?_)
      ·obtain ⟨h1,A1,p1,e,t1,c1,n1⟩:=hd 12 (by kernel_rfl);obtain rfl:v12=_:=e;go_simp;exact hK _ _ hC K_ ⟨h1,A1,p1,rfl,t1,c1,n1⟩
      simp only [ly];refine rA rfl (fun w=>KeepS.refl w) (fun xw hd K hK=>?_) (fun v14=>?_)
      ·obtain ⟨h1,A1,p1,e,t1,c1,n1⟩:=hd 12 (by kernel_rfl);obtain rfl:v12=_:=e;go_simp;exact hK _ rfl
      simp only [ly];refine rP rfl rfl (fun xw hC hd K hK=>?_) (fun v15=>?_)
      ·obtain rfl:v1=_:=hd 1 (by kernel_rfl);obtain rfl:v2=_:=hd 2 (by kernel_rfl);go_simp;exact hK _ _ hC K_ rfl
      simp only [ly];refine rP rfl rfl (fun xw hC hd K hK=>?_) (fun v16=>?_)
      ·obtain rfl:v15=_:=hd 15 (by kernel_rfl);go_simp;exact hK _ _ hC K_ rfl
      simp only [ly];refine rS (fun xw hC hd K hK=>?_) (fun v17=>?_)
      ·obtain rfl:v16=_:=hd 16 (by kernel_rfl);obtain ⟨h1,A1,p1,e,t1,c1,n1⟩:=hd 13 (by kernel_rfl);obtain rfl:v13=_:=e;have hC':Below W10.heap.size W10 xw:=hC;have HC6:=HC10.out.step hC';have hth:=LW.there HC6.files (i:=j) hjl' (p:=2) (n:=4) (by omega);refine wp_of_list (ops:=#[]) rfl (wpList_store_mid rfl 72 (.tmp 137) (.tmp 134) rfl gf (j*15+2) #[.int .i64 (h1:Int),.slice A1 (cano h1 (setR y.c p ((i:Int)+1)).1).kids.length p1,.int .i64 (cano h1 (setR y.c p ((i:Int)+1)).1).val,.int .i64 (cano h1 (setR y.c p ((i:Int)+1)).1).marks] rfl rfl hth tree_size (tree_one _ _ _ _ _ _) ?_);refine hK undef _ ⟨HC6.putFiles (gb_setCells xw gf (j*15+2) _) (LW.tree HC6.files HJ.out (setR_leafy HLf.out _ _) t1 c1 n1) (by simp),?_,?_,?_,?_⟩ (KeepS.of_setCells _ _ _ _ (fun h=>h.2.1 rfl)) trivial
       ·exact (heap_setCells gf _ (j*15+2) xw X (by omega)).trans (bk_step HO10.out hC')
       ·exact (heap_setCells gf _ (j*15+2) xw w.heap.size (by omega)).trans (bk_step HX10.out hC')
       ·exact (heap_setCells gf _ (j*15+2) xw (w.heap.size+1) (by omega)).trans (bk_step HR10.out hC')
       ·exact bl_setCells (bl_step HW10.out hC') (by omega) _ _
      simp only [ly];refine relWalkA_nil ?_;intro wz hD hG;clear hG;go_wp2;go_meet
      case rel=>exact hD
     case rest=>
      clear hlb z2 z3 z4 z5 hset HC10 HO10 HX10 HR10 HW10 hs10;clear x0 x1 x2 x3 x4 x5 x6 o0 o4 hlx hlo hblx0;obtain ⟨hC11,hO11,hX11,hR11,hW11⟩:=hcut;have HC11:=H_ hC11;have HO11:=H_ hO11;have HX11:=H_ hX11;have HR11:=H_ hR11;have HW11:=H_ hW11;clear hC11 hO11 hX11 hR11 hW11;have hs11:X+1≤wc.heap.size:=bk_lt HO11.out;obtain ⟨x0,x1,x2,x3,x4,x5,x6⟩:=cs7 HX11.out;have o0:=cells_at HO11.out 0;have o4:=cells_at HO11.out 4;simp only [List.getElem?_toArray,List.getElem?_cons_zero,List.getElem?_cons_succ] at o0 o4;have hlx:=bk_lt HX11.out;have hlo:=bk_lt HO11.out;obtain ⟨bl,ol,E1,u1,v1,E2,u2,v2,E3,u3,v3,eA5,em5,hbl5,hA,l0,l1,l2⟩:=LlA.cells HT.out.lists HLST.out;rw [eA5,em5] at x4;have HA:=H_ hA;clear hA eA5 em5;have hlb:bl<wc.heap.size:=Nat.lt_of_lt_of_le hbl5 HW11.out.size;replace l0:=(cell_kept (HW11.out.block _ hbl5)).trans l0;replace l1:=(cell_kept (HW11.out.block _ hbl5)).trans l1;replace l2:=(cell_kept (HW11.out.block _ hbl5)).trans l2
      go_upto_region 17 with fail
      go_cut [] (fun wx=>CpL wx Sx w4.heap.size gf nf cf gr' nr cr (.slice Pz nz rz) (.slice Pg ng rg) gl nl cl gk nk ck (.slice P7 n7 r7) (⟨C.files.set j ⟨y.dev,y.slot,(setR y.c p ((i:Int)+1)).1,y.size,y.blocks,y.ecnt,y.eerr,y.sseq,y.ssize,y.sblocks,y.which,y.seq⟩,C.frames,(takeZ C.zones u k).1,(chargeL C.groups t gp 1).1,C.lists.set t (addL l ((i:Int)+1) (acB clk (getR y.c p) l.act.length)),C.clocks,C.ptes⟩:Ck)∧wx.heap[X]?=some (.cells #[.slice (some ⟨gf,0,none⟩) nf cf,.slice (some ⟨gr',0,none⟩) nr cr,.slice Pz nz rz,.slice Pg ng rg,.slice (some ⟨gl,0,none⟩) nl cl,.slice (some ⟨gk,0,none⟩) nk ck,.slice P7 n7 r7] 30 (0,0))∧wx.heap[w.heap.size]?=some (.cells #[.slice (some ⟨bf,of,none⟩) C.files.length cf0,.slice A2 m2 c2,.slice A3 C.zones.length c3,.slice A4 C.groups.length c4,.slice A5 m5 c5,.slice A6 m6 c6,.slice A7 m7 c7] 30 (0,0))∧wx.heap[w.heap.size+1]?=some (oCZ)∧Below w.heap.size w wx)
      case first=>
       refine wp_region_sk (S:=TS Sx gf gr' gl gk) 174 15 (inL [0,1,2,3,4,5,6,7,8,9,10,11,12,14]) (fun wx=>CpL wx Sx w4.heap.size gf nf cf gr' nr cr (.slice Pz nz rz) (.slice Pg ng rg) gl nl cl gk nk ck (.slice P7 n7 r7) (⟨C.files.set j ⟨y.dev,y.slot,(setR y.c p ((i:Int)+1)).1,y.size,y.blocks,y.ecnt,y.eerr,y.sseq,y.ssize,y.sblocks,y.which,y.seq⟩,C.frames,(takeZ C.zones u k).1,(chargeL C.groups t gp 1).1,C.lists.set t (addL l ((i:Int)+1) (acB clk (getR y.c p) l.act.length)),C.clocks,C.ptes⟩:Ck)∧wx.heap[X]?=some (.cells #[.slice (some ⟨gf,0,none⟩) nf cf,.slice (some ⟨gr',0,none⟩) nr cr,.slice Pz nz rz,.slice Pg ng rg,.slice (some ⟨gl,0,none⟩) nl cl,.slice (some ⟨gk,0,none⟩) nk ck,.slice P7 n7 r7] 30 (0,0))∧wx.heap[w.heap.size]?=some (.cells #[.slice (some ⟨bf,of,none⟩) C.files.length cf0,.slice A2 m2 c2,.slice A3 C.zones.length c3,.slice A4 C.groups.length c4,.slice A5 m5 c5,.slice A6 m6 c6,.slice A7 m7 c7] 30 (0,0))∧wx.heap[w.heap.size+1]?=some (oCZ)∧Below w.heap.size w wx) [SK.eq (.pointer (some ⟨X,4,none⟩)),SK.eq (.slice (some ⟨gl,0,none⟩) nl cl),SK.eq (.int .i64 (t:Int)),SK.eq (.pointer (some ⟨w.heap.size,4,none⟩)),SK.eq (.slice (some ⟨bl,ol,none⟩) C.lists.length c5),SK.eq (.int .i64 (t:Int)),SK.eq (.pointer (some ⟨bl,ol+t*3,none⟩)),SK.eq (.agg #[.slice E1 u1 v1,.slice E2 u2 v2,.slice E3 u3 v3]),SK.eq (.int .i64 ((i:Int)+1)),SK.eq (.bool (acB clk (getR y.c p) l.act.length)),SK.lr2 (TS Sx gf gr' gl gk) (addL l ((i:Int)+1) (acB clk (getR y.c p) l.act.length)) (if hasL l ((i:Int)+1)=true then 5 else 0) (fun _ h=>h),SK.lr2 (TS Sx gf gr' gl gk) (addL l ((i:Int)+1) (acB clk (getR y.c p) l.act.length)) (if hasL l ((i:Int)+1)=true then 5 else 0) (fun _ h=>h),SK.lr (TS Sx gf gr' gl gk) (addL l ((i:Int)+1) (acB clk (getR y.c p) l.act.length)) (fun _ h=>h),SK.eq (.int .i64 (if hasL l ((i:Int)+1)=true then 5 else 0)),SK.eq (.pointer (some ⟨gl,t*3,none⟩)),SK.any] (by kernel_rfl) (by kernel_rfl) rfl (fun _=>trivial) ?_;refine rP rfl rfl (fun xw hC hd K hK=>?_) (fun v0=>?_)
       ·go_simp;exact hK _ _ hC K_ rfl
       simp only [ly];refine rP rfl rfl (fun xw hC hd K hK=>?_) (fun v1=>?_)
       ·obtain rfl:v0=_:=hd 0 (by kernel_rfl);have hC':Below wc.heap.size wc xw:=hC;have u0:=(hC'.cell (p:=⟨X,_,none⟩) hlo).trans o4;go_simp;exact hK _ _ hC K_ rfl
       simp only [ly];refine rP rfl rfl (fun xw hC hd K hK=>?_) (fun v2=>?_)
       ·go_simp;exact hK _ _ hC K_ rfl
       simp only [ly];refine rP rfl rfl (fun xw hC hd K hK=>?_) (fun v3=>?_)
       ·go_simp;exact hK _ _ hC K_ rfl
       simp only [ly];refine rP rfl rfl (fun xw hC hd K hK=>?_) (fun v4=>?_)
       ·obtain rfl:v3=_:=hd 3 (by kernel_rfl);have hC':Below wc.heap.size wc xw:=hC;have u0:=(hC'.cell (p:=⟨w.heap.size,_,none⟩) hlx).trans x4;go_simp;exact hK _ _ hC K_ rfl
       simp only [ly];refine rP rfl rfl (fun xw hC hd K hK=>?_) (fun v5=>?_)
       ·go_simp;exact hK _ _ hC K_ rfl
       simp only [ly];refine rP rfl rfl (fun xw hC hd K hK=>?_) (fun v6=>?_)
       ·obtain rfl:v4=_:=hd 4 (by kernel_rfl);obtain rfl:v5=_:=hd 5 (by kernel_rfl);go_simp;exact hK _ _ hC K_ rfl
       simp only [ly];refine rP rfl rfl (fun xw hC hd K hK=>?_) (fun v7=>?_)
       ·obtain rfl:v6=_:=hd 6 (by kernel_rfl);have hC':Below wc.heap.size wc xw:=hC;have u0:=(hC'.cell (p:=⟨bl,_,none⟩) hlb).trans l0;have u1:=(hC'.cell (p:=⟨bl,_,none⟩) hlb).trans l1;have u2:=(hC'.cell (p:=⟨bl,_,none⟩) hlb).trans l2;go_simp;exact hK _ _ hC K_ rfl
       simp only [ly];refine rP rfl rfl (fun xw hC hd K hK=>?_) (fun v8=>?_)
       ·go_simp;exact hK _ _ hC K_ rfl
       simp only [ly];refine rP rfl rfl (fun xw hC hd K hK=>?_) (fun v9=>?_)
       ·go_simp;exact hK _ _ hC K_ rfl
       simp only [ly];refine rP rfl rfl (fun xw hC hd K hK=>?_) (fun v10=>?_)
       ·obtain rfl:v7=_:=hd 7 (by kernel_rfl);obtain rfl:v8=_:=hd 8 (by kernel_rfl);obtain rfl:v9=_:=hd 9 (by kernel_rfl);have hC':Below wc.heap.size wc xw:=hC;go_simp
        go_at_call 72
        refine (add_w l ((i:Int)+1) (acB clk (getR y.c p) l.act.length) _ _ _ (TS Sx gf gr' gl gk) _ (HA.out.step (bl_step HW11.out hC')) (HI.out.lok t l HLST.out) ⟨by omega,by omega⟩ (hfr _ (Nat.le_trans hs11 hC'.size))).mono ?_;rintro e w1 ⟨q1,q2,q3,rfl,hA,hb⟩;exact hK _ _ (bl_step hC' hb) (KeepS.of_below hb) ⟨q1,q2,q3,rfl,hA⟩
       simp only [ly];refine rP rfl rfl (fun xw hC hd K hK=>?_) (fun v11=>?_)
       ·obtain ⟨q1,q2,q3,e,hA⟩:=hd 10 (by kernel_rfl);obtain rfl:v10=_:=e;go_simp;exact hK _ _ hC K_ ⟨q1,q2,q3,rfl,hA⟩
       simp only [ly];refine rP rfl rfl (fun xw hC hd K hK=>?_) (fun v12=>?_)
       ·obtain ⟨q1,q2,q3,e,hA⟩:=hd 11 (by kernel_rfl);obtain rfl:v11=_:=e;go_simp;exact hK _ _ hC K_ ⟨q1,q2,q3,rfl,hA⟩
       simp only [ly];refine rA rfl (fun w=>KeepS.refl w) (fun xw hd K hK=>?_) (fun v13=>?_)
       ·obtain ⟨q1,q2,q3,e,hA⟩:=hd 11 (by kernel_rfl);obtain rfl:v11=_:=e;go_simp;exact hK _ rfl
       simp only [ly];refine rP rfl rfl (fun xw hC hd K hK=>?_) (fun v14=>?_)
       ·obtain rfl:v1=_:=hd 1 (by kernel_rfl);obtain rfl:v2=_:=hd 2 (by kernel_rfl);go_simp;exact hK _ _ hC K_ rfl
       simp only [ly];refine rS (fun xw hC hd K hK=>?_) (fun v15=>?_)
       ·obtain rfl:v14=_:=hd 14 (by kernel_rfl);obtain ⟨q1,q2,q3,e,hA⟩:=hd 12 (by kernel_rfl);obtain rfl:v12=_:=e;have hC':Below wc.heap.size wc xw:=hC;obtain ⟨B1,j1,f1',rfl⟩:=hA.1.cap;obtain ⟨B2,j2',f2',rfl⟩:=hA.2.1.cap;obtain ⟨B3,j3,f3',rfl⟩:=hA.2.2.cap;have HC6:=HC11.out.step hC';have hth:=LW.there HC6.lists (i:=t) htl (p:=0) (n:=3) (by omega);rw [Nat.add_zero] at hth;refine wp_of_list (ops:=#[]) rfl (wpList_store_mid rfl 121 (.tmp 152) (.tmp 150) rfl gl (t*3) #[.slice B1 j1 f1',.slice B2 j2' f2',.slice B3 j3 f3'] rfl rfl hth lru_size (one3 _ _ _ _ _ _ _ _ _) ?_);refine hK undef _ ⟨HC6.putLists (gb_setCells xw gl (t*3) _) (HC6.lists.set htl ⟨_,_,_,rfl,hA⟩) (by simp),?_,?_,?_,?_⟩ (KeepS.of_setCells _ _ _ _ (fun h=>h.2.2.2.1 rfl)) trivial
        ·exact (heap_setCells gl _ (t*3) xw X (by omega)).trans (bk_step HO11.out hC')
        ·exact (heap_setCells gl _ (t*3) xw w.heap.size (by omega)).trans (bk_step HX11.out hC')
        ·exact (heap_setCells gl _ (t*3) xw (w.heap.size+1) (by omega)).trans (bk_step HR11.out hC')
        ·exact bl_setCells (bl_step HW11.out hC') (by omega) _ _
       simp only [ly];refine relWalkA_nil ?_;intro wz hD hG;clear hG;go_wp2;go_meet
       case rel=>exact hD
      case rest=>
       clear hlb l0 l1 l2 HA HC11 HO11 HX11 HR11 HW11 hs11;clear x0 x1 x2 x3 x4 x5 x6 o0 o4 hlx hlo;obtain ⟨hC13,hO13,hX13,hR13,hW13⟩:=hcut;have HC13:=H_ hC13;have HO13:=H_ hO13;have HX13:=H_ hX13;have HR13:=H_ hR13;have HW13:=H_ hW13;clear hC13 hO13 hX13 hR13 hW13;have hs13:X+1≤wc.heap.size:=bk_lt HO13.out;have hpn:=fun w'=>pnew_w w';have hph:=fun w'=>phole_w w';have HPG:=H_ (show insPg y p=if holeB y p then holeG else newG from rfl);generalize newG=gN at hpn HPG;generalize holeG=gH at hph HPG
       go_upto_region 18 with fail
       go_upto_region 19 with (go_at_call 73;go_loud (refine CM (hpn _) ?_);rintro e w14 ⟨rfl,hb14⟩;have HC14:=H_ (HC13.out.step hb14);have HO14:=bkh HO13 hb14;have HX14:=bkh HX13 hb14;have HR14:=bkh HR13 hb14;have HW14:=blh HW13 hb14;have hs14:=Nat.le_trans hs13 hb14.size;clear hb14)
       obtain ⟨Y,hY⟩:∃Y,Y=w14.heap.size:=⟨_,rfl⟩;have HP15:=H_ (heap_at_new w14 (.cells #[.string (gN).data,.int .i64 (gN).valid,.int .i64 (gN).dirty] 53) Y hY.symm);have HC15:=H_ ((HC14.out.but Y (Nat.le_of_eq hY.symm)).step (bl_alloc B_ (.cells #[.string (gN).data,.int .i64 (gN).valid,.int .i64 (gN).dirty] 53)));have HO15:=H_ (bk_alloc HO14.out (.cells #[.string (gN).data,.int .i64 (gN).valid,.int .i64 (gN).dirty] 53));have HX15:=H_ (bk_alloc HX14.out (.cells #[.string (gN).data,.int .i64 (gN).valid,.int .i64 (gN).dirty] 53));have HR15:=H_ (bk_alloc HR14.out (.cells #[.string (gN).data,.int .i64 (gN).valid,.int .i64 (gN).dirty] 53));have HW15:=H_ (bl_alloc HW14.out (.cells #[.string (gN).data,.int .i64 (gN).valid,.int .i64 (gN).dirty] 53));rw [←hY];generalize w14.alloc (.cells #[.string (gN).data,.int .i64 (gN).valid,.int .i64 (gN).dirty] 53)=W15 at HP15 HC15 HO15 HX15 HR15 HW15;have hYX:X<Y:=by omega
       clear hY HC13 HO13 HX13 HR13 HW13 hs13 HC14 HO14 HX14 HR14 HW14 hs14 hpn;have hcf:=HCF.out;have z0:W15.cell? ⟨bf,of+j*15,none⟩=some (.int .i64 y.dev):=(cell_kept (HW15.out.block _ hbf)).trans (hcf 0 _ rfl);have z1:W15.cell? ⟨bf,of+j*15+1,none⟩=some (.int .i64 y.slot):=(cell_kept (HW15.out.block _ hbf)).trans (hcf 1 _ rfl);have z2:W15.cell? ⟨bf,of+j*15+2,none⟩=some (.int .i64 kt):=(cell_kept (HW15.out.block _ hbf)).trans (hcf 2 _ rfl);have z3:W15.cell? ⟨bf,of+j*15+3,none⟩=some (.slice KB (cano kt y.c).kids.length kc):=(cell_kept (HW15.out.block _ hbf)).trans (hcf 3 _ rfl);have z4:W15.cell? ⟨bf,of+j*15+4,none⟩=some (.int .i64 (cano kt y.c).val):=(cell_kept (HW15.out.block _ hbf)).trans (hcf 4 _ rfl);have z5:W15.cell? ⟨bf,of+j*15+5,none⟩=some (.int .i64 (cano kt y.c).marks):=(cell_kept (HW15.out.block _ hbf)).trans (hcf 5 _ rfl);have z6:W15.cell? ⟨bf,of+j*15+6,none⟩=some (.int .i64 y.size):=(cell_kept (HW15.out.block _ hbf)).trans (hcf 6 _ rfl);have z7:W15.cell? ⟨bf,of+j*15+7,none⟩=some (.int .i64 y.blocks):=(cell_kept (HW15.out.block _ hbf)).trans (hcf 7 _ rfl);have z8:W15.cell? ⟨bf,of+j*15+8,none⟩=some (.int .i64 y.ecnt):=(cell_kept (HW15.out.block _ hbf)).trans (hcf 8 _ rfl);have z9:W15.cell? ⟨bf,of+j*15+9,none⟩=some (.int .i64 y.eerr):=(cell_kept (HW15.out.block _ hbf)).trans (hcf 9 _ rfl);have za:W15.cell? ⟨bf,of+j*15+10,none⟩=some (.int .i64 y.sseq):=(cell_kept (HW15.out.block _ hbf)).trans (hcf 10 _ rfl);have zb:W15.cell? ⟨bf,of+j*15+11,none⟩=some (.int .i64 y.ssize):=(cell_kept (HW15.out.block _ hbf)).trans (hcf 11 _ rfl);have zc:W15.cell? ⟨bf,of+j*15+12,none⟩=some (.int .i64 y.sblocks):=(cell_kept (HW15.out.block _ hbf)).trans (hcf 12 _ rfl);have zd:W15.cell? ⟨bf,of+j*15+13,none⟩=some (.int .i64 y.which):=(cell_kept (HW15.out.block _ hbf)).trans (hcf 13 _ rfl);have ze:W15.cell? ⟨bf,of+j*15+14,none⟩=some (.int .i64 y.seq):=(cell_kept (HW15.out.block _ hbf)).trans (hcf 14 _ rfl);obtain ⟨x0,x1,x2,x3,x4,x5,x6⟩:=cs7 HX15.out;have hho:=fun w'=>holeq_w y kt KB kc p hp w'
       simp only [Fl.v,Fl.rowT] at hho
       cases h3:holeB y p with
       | true=>
        rw [h3] at hho;have HPG1:=H_ (show insPg y p=gH by rw [HPG.out,h3];rfl);clear h3
        go_upto_region 21 with (first
         | (go_at_call 74;go_loud (refine CM (hho _) ?_);rintro e w16 ⟨rfl,hb16⟩;have HP16:=bkh HP15 hb16;have HC16:=H_ (HC15.out.step hb16);have HO16:=bkh HO15 hb16;have HX16:=bkh HX15 hb16;have HR16:=bkh HR15 hb16;have HW16:=blh HW15 hb16;clear hb16)
         | (go_at_call 75;go_loud (refine CM (hph _) ?_);rintro e w17 ⟨rfl,hb17⟩;have HP17:=bkh HP16 hb17;have HC17:=H_ (HC16.out.step hb17);have HO17:=bkh HO16 hb17;have HX17:=bkh HX16 hb17;have HR17:=bkh HR16 hb17;have HW17:=blh HW16 hb17;clear hb17)
         | (refine wpList_store_rowTo rfl 53 (.tmp 24) (.tmp 161) rfl rfl Y #[.string (gH).data,.int .i64 (gH).valid,.int .i64 (gH).dirty] rfl rfl 53 _ HP17.out pg_size rfl (pg_one _ _ _) ?_))
        clear x0 x1 x2 x3 x4 x5 x6 z0 z1 z2 z3 z4 z5 z6 z7 z8 z9 za zb zc zd ze hho hph HPG;have HP18:=H_ (setRow_heap w17 Y _ #[.string (gH).data,.int .i64 (gH).valid,.int .i64 (gH).dirty] _ _ HP17.out);have HC18:=H_ (HC17.out.setRowX Y #[.string (gH).data,.int .i64 (gH).valid,.int .i64 (gH).dirty] (fun hz=>hz.2 rfl) (by omega));have HO18:=H_ ((setRow_other w17 Y X #[.string (gH).data,.int .i64 (gH).valid,.int .i64 (gH).dirty] (by omega)).trans HO17.out);have HX18:=H_ ((setRow_other w17 Y w.heap.size #[.string (gH).data,.int .i64 (gH).valid,.int .i64 (gH).dirty] (by omega)).trans HX17.out);have HR18:=H_ ((setRow_other w17 Y (w.heap.size+1) #[.string (gH).data,.int .i64 (gH).valid,.int .i64 (gH).dirty] (by omega)).trans HR17.out);have HW18:=H_ (bl_setRow HW17.out (by omega:w.heap.size≤Y) #[.string (gH).data,.int .i64 (gH).valid,.int .i64 (gH).dirty]);generalize w17.setRow Y #[.string (gH).data,.int .i64 (gH).valid,.int .i64 (gH).dirty]=W18 at HP18 HC18 HO18 HX18 HR18 HW18;clear HP15 HC15 HO15 HX15 HR15 HW15 HP16 HC16 HO16 HX16 HR16 HW16 HP17 HC17 HO17 HX17 HR17 HW17;have o1:=cells_at HO18.out 1;have pp:=HP18.out;have p0:=cells_at pp 0;have p1:=cells_at pp 1;have p2:=cells_at pp 2;simp only [List.getElem?_toArray,List.getElem?_cons_zero,List.getElem?_cons_succ] at o1 p0 p1 p2;clear pp;have HTh:=H_ (LW.there HC18.out.frames hil (p:=0) (n:=9) (by omega));rw [Nat.add_zero] at HTh
        go_upto_region 22 with (first
         | (refine wpList_store_mid rfl 55 (.tmp 171) (.tmp 170) rfl gr' (i*9) #[.int .i64 (j:Int),.int .i64 (p:Int),.string (gH).data,.int .i64 (gH).valid,.int .i64 (gH).dirty,.int .i64 (t:Int),.int .i64 0,.int .i64 0,.int .i64 0] rfl rfl HTh.out fr_size (fr_one ⟨j,p,gH,t,0,0,0⟩) ?_)
         | fail)
        have HC19:=H_ (HC18.out.frame hil ⟨j,p,gH,t,0,0,0⟩);rw [show (⟨j,p,gH,t,0,0,0⟩:Fr).row=[.int .i64 (j:Int),.int .i64 (p:Int),.string (gH).data,.int .i64 (gH).valid,.int .i64 (gH).dirty,.int .i64 (t:Int),.int .i64 0,.int .i64 0,.int .i64 0] from rfl] at HC19;have HO19:=H_ ((heap_setCells gr' [.int .i64 (j:Int),.int .i64 (p:Int),.string (gH).data,.int .i64 (gH).valid,.int .i64 (gH).dirty,.int .i64 (t:Int),.int .i64 0,.int .i64 0,.int .i64 0] (i*9) W18 X (by omega)).trans HO18.out);have HR19:=H_ ((heap_setCells gr' [.int .i64 (j:Int),.int .i64 (p:Int),.string (gH).data,.int .i64 (gH).valid,.int .i64 (gH).dirty,.int .i64 (t:Int),.int .i64 0,.int .i64 0,.int .i64 0] (i*9) W18 (w.heap.size+1) (by omega)).trans HR18.out);have HW19:=H_ (bl_setCells HW18.out (by omega:w.heap.size≤gr') (i*9) [.int .i64 (j:Int),.int .i64 (p:Int),.string (gH).data,.int .i64 (gH).valid,.int .i64 (gH).dirty,.int .i64 (t:Int),.int .i64 0,.int .i64 0,.int .i64 0]);generalize W18.setCells gr' (i*9) _=W19 at HC19 HO19 HR19 HW19;clear o1 p0 p1 p2 HTh HC18 HO18 HX18 HR18 HW18 HP18;obtain ⟨x0,x1,x2,x3,x4,x5,x6⟩:=cs7 HO19.out
        go_wp2_with (refine st_ck rfl (.tmp 12) (.tmp 172) rfl rfl (w.heap.size+1) rfl rfl HR19.out rfl ?_)
        show bodyPost Tryz.prog Tryz.f37 _ _ _ _
        refine bodyPost_ret (ck3_res rfl _ _ (w.heap.size+1) _ _ _ _ _ _ _ _ _ _ _ rfl rfl rfl (setRow_heap _ _ _ _ _ _ HR19.out)) rfl ?_;refine ⟨insC C j p t i y l gp (takeZ C.zones u k).1 (acB clk (getR y.c p) l.act.length),_,_,_,_,_,_,_,_,_,.inr ⟨rfl,HV.out,i,_,rfl,HIN.out,HT0.out,rfl⟩,rfl,?_,bl_setRow HW19.out (by omega) _⟩;have hfin:=((HC19.out.setRow (w.heap.size+1) #[.slice (some ⟨gf,0,none⟩) nf cf,.slice (some ⟨gr',0,none⟩) nr cr,.slice Pz nz rz,.slice Pg ng rg,.slice (some ⟨gl,0,none⟩) nl cl,.slice (some ⟨gk,0,none⟩) nk ck,.slice P7 n7 r7] (fun hz=>(s1 _ (sx1 _ hz.1).1).2.2 rfl) (by omega)).weak (Nat.le_refl _) (fun z hz=>(s1 z (sx1 z hz.1).1).1) (fun z hz=>hS z (by omega))).at_;unfold insC;rw [HPG1.out];exact hfin
       | false=>
        rw [h3] at hho;have HPG1:=H_ (show insPg y p=gN by rw [HPG.out,h3];rfl);clear h3
        go_upto_region 21 with (first
         | (go_at_call 74;go_loud (refine CM (hho _) ?_);rintro e w18 ⟨rfl,hb16⟩;have HP18:=bkh HP15 hb16;have HC18:=H_ (HC15.out.step hb16);have HO18:=bkh HO15 hb16;have HX18:=bkh HX15 hb16;have HR18:=bkh HR15 hb16;have HW18:=blh HW15 hb16;clear hb16))
        clear HP15 HC15 HO15 HX15 HR15 HW15;clear x0 x1 x2 x3 x4 x5 x6 z0 z1 z2 z3 z4 z5 z6 z7 z8 z9 za zb zc zd ze hho hph HPG;have o1:=cells_at HO18.out 1;have pp:=HP18.out;have p0:=cells_at pp 0;have p1:=cells_at pp 1;have p2:=cells_at pp 2;simp only [List.getElem?_toArray,List.getElem?_cons_zero,List.getElem?_cons_succ] at o1 p0 p1 p2;clear pp;have HTh:=H_ (LW.there HC18.out.frames hil (p:=0) (n:=9) (by omega));rw [Nat.add_zero] at HTh
        go_upto_region 22 with (first
         | (refine wpList_store_mid rfl 55 (.tmp 171) (.tmp 170) rfl gr' (i*9) #[.int .i64 (j:Int),.int .i64 (p:Int),.string (gN).data,.int .i64 (gN).valid,.int .i64 (gN).dirty,.int .i64 (t:Int),.int .i64 0,.int .i64 0,.int .i64 0] rfl rfl HTh.out fr_size (fr_one ⟨j,p,gN,t,0,0,0⟩) ?_)
         | fail)
        have HC19:=H_ (HC18.out.frame hil ⟨j,p,gN,t,0,0,0⟩);rw [show (⟨j,p,gN,t,0,0,0⟩:Fr).row=[.int .i64 (j:Int),.int .i64 (p:Int),.string (gN).data,.int .i64 (gN).valid,.int .i64 (gN).dirty,.int .i64 (t:Int),.int .i64 0,.int .i64 0,.int .i64 0] from rfl] at HC19;have HO19:=H_ ((heap_setCells gr' [.int .i64 (j:Int),.int .i64 (p:Int),.string (gN).data,.int .i64 (gN).valid,.int .i64 (gN).dirty,.int .i64 (t:Int),.int .i64 0,.int .i64 0,.int .i64 0] (i*9) w18 X (by omega)).trans HO18.out);have HR19:=H_ ((heap_setCells gr' [.int .i64 (j:Int),.int .i64 (p:Int),.string (gN).data,.int .i64 (gN).valid,.int .i64 (gN).dirty,.int .i64 (t:Int),.int .i64 0,.int .i64 0,.int .i64 0] (i*9) w18 (w.heap.size+1) (by omega)).trans HR18.out);have HW19:=H_ (bl_setCells HW18.out (by omega:w.heap.size≤gr') (i*9) [.int .i64 (j:Int),.int .i64 (p:Int),.string (gN).data,.int .i64 (gN).valid,.int .i64 (gN).dirty,.int .i64 (t:Int),.int .i64 0,.int .i64 0,.int .i64 0]);generalize w18.setCells gr' (i*9) _=W19 at HC19 HO19 HR19 HW19;clear o1 p0 p1 p2 HTh HC18 HO18 HX18 HR18 HW18 HP18;obtain ⟨x0,x1,x2,x3,x4,x5,x6⟩:=cs7 HO19.out
        go_wp2_with (refine st_ck rfl (.tmp 12) (.tmp 172) rfl rfl (w.heap.size+1) rfl rfl HR19.out rfl ?_)
        show bodyPost Tryz.prog Tryz.f37 _ _ _ _
        refine bodyPost_ret (ck3_res rfl _ _ (w.heap.size+1) _ _ _ _ _ _ _ _ _ _ _ rfl rfl rfl (setRow_heap _ _ _ _ _ _ HR19.out)) rfl ?_;refine ⟨insC C j p t i y l gp (takeZ C.zones u k).1 (acB clk (getR y.c p) l.act.length),_,_,_,_,_,_,_,_,_,.inr ⟨rfl,HV.out,i,_,rfl,HIN.out,HT0.out,rfl⟩,rfl,?_,bl_setRow HW19.out (by omega) _⟩;have hfin:=((HC19.out.setRow (w.heap.size+1) #[.slice (some ⟨gf,0,none⟩) nf cf,.slice (some ⟨gr',0,none⟩) nr cr,.slice Pz nz rz,.slice Pg ng rg,.slice (some ⟨gl,0,none⟩) nl cl,.slice (some ⟨gk,0,none⟩) nk ck,.slice P7 n7 r7] (fun hz=>(s1 _ (sx1 _ hz.1).1).2.2 rfl) (by omega)).weak (Nat.le_refl _) (fun z hz=>(s1 z (sx1 z hz.1).1).1) (fun z hz=>hS z (by omega))).at_;unfold insC;rw [HPG1.out];exact hfin
   ·have d2:((takeZ C.zones u k).2.2 != 0)=true:=bne_iff_ne.2 ht0;have HT0:=H_ ht0;clear ht0
    go_wp2_with (refine st_ck rfl (.tmp 12) (.tmp 91) rfl rfl (w.heap.size+1) rfl rfl HR4.out rfl ?_)
    show bodyPost Tryz.prog Tryz.f37 _ _ _ _
    refine bodyPost_ret (ck3_res rfl _ _ (w.heap.size+1) _ _ _ _ _ _ _ _ _ _ _ rfl rfl rfl (setRow_heap _ _ _ _ _ _ HR4.out)) rfl ?_;exact ⟨C,_,_,_,_,_,_,_,_,_,.inl ⟨HT0.out,rfl,.inr (.inr HT0.out)⟩,rfl,(H.out.step (bl_setRow HW4.out (by omega) _)).weak (fun z _ hz=>(s1 z hz).1),bl_setRow HW4.out (by omega) _⟩
  ·have d1:((chargeL C.groups t gp 1).2 != 0)=true:=bne_iff_ne.2 hc0;have HC0:=H_ hc0;clear hc0
   go_wp2_with (refine st_ck rfl (.tmp 12) (.tmp 78) rfl rfl (w.heap.size+1) rfl rfl HR3.out rfl ?_)
   show bodyPost Tryz.prog Tryz.f37 _ _ _ _
   refine bodyPost_ret (ck3_res rfl _ _ (w.heap.size+1) _ _ _ _ _ _ _ _ _ _ _ rfl rfl rfl (setRow_heap _ _ _ _ _ _ HR3.out)) rfl ?_;exact ⟨C,_,_,_,_,_,_,_,_,_,.inl ⟨HC0.out,rfl,.inr (.inl HC0.out)⟩,rfl,(H.out.step (bl_setRow HW3.out (by omega) _)).weak (fun z _ hz=>(s1 z hz).1),bl_setRow HW3.out (by omega) _⟩
 ·obtain ⟨i,x,hgi,hU,hxp⟩:=HI.out.findOk HJ.out p (by omega);have hfq:∀w',Below w.heap.size w w'→Calls Tryz.prog 23 #[ckV (.slice (some ⟨bf,of,none⟩) C.files.length cf0) (.slice A2 m2 c2) (.slice A3 C.zones.length c3) (.slice A4 C.groups.length c4) (.slice A5 m5 c5) (.slice A6 m6 c6) (.slice A7 m7 c7),.int .i64 j,.int .i64 p] w' (fun e w''=>e = .returned (.tuple #[.int .i64 ((i:Int)+1),.bool true])∧Below w'.heap.size w' w''):=fun w' hb=>by
   have:=hfd w' hb;unfold RetFd fdV at this;rw [if_neg hv,hgi] at this;exact this
  have HV:=H_ (show 0<getR y.c p by omega);clear hfd hv hgi hU hxp
  go_wp2_with (first | (go_at_call 23;go_loud (refine CM (hfq _ HW1.out) ?_);rintro e w2 ⟨rfl,hb2⟩;have HX2:=bkh HX1 hb2;have HR2:=bkh HR1 hb2;have HW2:=blh HW1 hb2;clear hb2 x0 x1 x2 x3 x4 x5 x6;obtain ⟨x0,x1,x2,x3,x4,x5,x6⟩:=cs7 HX2.out) | (refine st_ck rfl (.tmp 12) (.tmp 68) rfl rfl (w.heap.size+1) rfl rfl HR2.out rfl ?_))
  show bodyPost Tryz.prog Tryz.f37 _ _ _ _
  refine bodyPost_ret (ck3_res rfl _ _ (w.heap.size+1) _ _ _ _ _ _ _ _ _ _ _ rfl rfl rfl (setRow_heap _ _ _ _ _ _ HR2.out)) rfl ?_;exact ⟨C,_,_,_,_,_,_,_,_,_,.inl ⟨by decide,rfl,.inl HV.out⟩,rfl,(H.out.step (bl_setRow HW2.out (by omega) _)).weak (fun z _ hz=>(s1 z hz).1),bl_setRow HW2.out (by omega) _⟩
end
end Go.Proofs.YthhekebemmckcaaGreatDoor
