/-
  Lemmas and contracts for the laws of synchronisations (layer 43), part 35; several texts joined by a program.
-/
import Derived.Test.YthhekebemmckcaaGreatDoorJ01
import Derived.Test.YthhekebemmckcaaGreatDoorJ16
import Derived.Test.YthhekebemmckcaaGreatDoorJ33
import Derived.Test.YthhekebemmckcaaGreatDoorJ34
namespace Go.Proofs.YthhekebemmckcaaGreatDoor
set_option linter.unusedVariables false
set_option linter.unusedSimpArgs false
set_option maxRecDepth 100000
set_option maxHeartbeats 16000000
open Go.RowKit
section
variable {F G Z:Nat}
def ClrS (F G Z off n sz j cnt k:Nat) (C:Ck):Prop:=Inv F G Z C∧∃y,C.files[j]?=some y∧∀m,k≤m→m<cnt→whB off n sz (off / 16+m)=false→UnOk C j y off n true ((off / 16+m:Nat):Int)
theorem ClrS.keep {off n sz j cnt k:Nat} {C C':Ck} {y y':Fl} {i:Nat} {x:Fr} (h:∀m,k≤m→m<cnt→whB off n sz (off / 16+m)=false→UnOk C j y off n true ((off / 16+m:Nat):Int)) (hi:C.frames[i]?=some x) (hxp:x.page=((off / 16+k:Nat):Int)) (hI:Inv F G Z C') (hy':C'.files[j]?=some y')
  (hfr:∀i',i'≠i→∀u,C.frames[i']?=some u→C'.frames[i']?=some u) (hg:∀p:Int,p≠((off / 16+k:Nat):Int)→getR y'.c p=getR y.c p):ClrS F G Z off n sz j cnt (k+1) C':=by
 refine ⟨hI,y',hy',fun m hm hml hw=>?_⟩;obtain ⟨i',u,g1,g2,g3,g4⟩:=h m (by omega) hml hw;have hne:((off / 16+m:Nat):Int)≠((off / 16+k:Nat):Int):=by omega
 have hii:i'≠i:=fun e=>by
  subst e;obtain rfl:u=x:=Option.some.inj (g2.fr.symm.trans hi);rw [hxp] at g3;exact hne g3.symm
 exact ⟨i',u,by rw [hg _ hne];exact g1,⟨hfr i' hii u g2.fr,hy',g2.ix,g2.ok⟩,g3,g4⟩
theorem ClrS.keep0 {off n sz j cnt k:Nat} {C C':Ck} {y y':Fl} (h:∀m,k≤m→m<cnt→whB off n sz (off / 16+m)=false→UnOk C j y off n true ((off / 16+m:Nat):Int)) (hI:Inv F G Z C') (hy':C'.files[j]?=some y')
  (hfr:C'.frames=C.frames) (hg:∀p:Int,p≠((off / 16+k:Nat):Int)→getR y'.c p=getR y.c p):ClrS F G Z off n sz j cnt (k+1) C':=by
 refine ⟨hI,y',hy',fun m hm hml hw=>?_⟩;obtain ⟨i',u,g1,g2,g3,g4⟩:=h m (by omega) hml hw;have hne:((off / 16+m:Nat):Int)≠((off / 16+k:Nat):Int):=by omega
 exact ⟨i',u,by rw [hg _ hne];exact g1,⟨by rw [hfr];exact g2.fr,hy',g2.ix,g2.ok⟩,g3,g4⟩
theorem Inv.unset {C:Ck} (h:Inv F G Z C) {j:Nat} {y:Fl} (hj:C.files[j]?=some y) {p:Nat} (hp:p<8) (hv:getR y.c p≤0) (bl:Int):Inv F G Z {C with files:=C.files.set j {y with c:=(setR y.c p 0).1,blocks:=bl}}:=by
 have hB:inB (p:Int)=true:=by unfold inB;simp;omega
 have hy:=h.file j y hj;refine h.rel (FrRel.refl h) (FlRel.set h hj (fun q hq=>?_) ⟨hy.size,hy.slot,hy.err⟩) rfl rfl h.nl h.nk h.lok h.pok
 show getR (setR y.c p 0).1 q=_
 have hq':0<getR (setR y.c p 0).1 q∨0<getR y.c q:=hq;rw [getR_setR hB] at hq' ⊢
 by_cases e:q=(p:Int)
 ·rw [if_pos e] at hq' ⊢
  rcases hq' with hq' | hq'
  ·omega
  ·rw [e] at hq';omega
 ·rw [if_neg e]
theorem Inv.blocks {C:Ck} (h:Inv F G Z C) {j:Nat} {y:Fl} (hj:C.files[j]?=some y) (bl:Int):Inv F G Z {C with files:=C.files.set j {y with blocks:=bl}}:=by
 have hy:=h.file j y hj;exact h.rel (FrRel.refl h) (FlRel.set h hj (fun q hq=>rfl) ⟨hy.size,hy.slot,hy.err⟩) rfl rfl h.nl h.nk h.lok h.pok
def SK.mk0 (n N:Nat):SK (fun z=>N≤z):=⟨fun v w=>∃g,v = .slice (some ⟨g,0,none⟩) n n∧N≤g∧g<w.heap.size∧∃w0 base,World.ownsRow w0 base 5 1 (.slice (some ⟨g,0,none⟩) n n) n (madeCells (Value.int .u8 0).cells (n*1)).toList∧w.heap[g]?=w0.heap[g]?,fun v w w' hk ⟨g,e,h1,h2,w0,base,h3,h4⟩=>⟨g,e,h1,Nat.lt_of_lt_of_le h2 hk.1,w0,base,h3,(hk.2 g h1 h2).trans h4⟩⟩
theorem clip_idem (off n sz:Nat):clipN off (clipN off n sz) sz=clipN off n sz:=by unfold clipN;omega
theorem cleared_w (C0:Ck) (j off n sz:Nat) (y0:Fl) (a b c d e f g:Value) (S:Nat→Prop) (w:World) (h:CkAt w S a b c d e f g C0) (hI:Inv F G Z C0) (hj:C0.files[j]?=some y0) (hsz:y0.size=sz) (hs8:sz≤128) (h2:off+n≤128)
  (hcut:∀m,m<(if clipN off n sz=0 then 0 else (off+clipN off n sz+15) / 16 - off / 16)→whB off (clipN off n sz) sz (off / 16+m)=false→UnOk C0 j y0 off (clipN off n sz) true ((off / 16+m:Nat):Int)) (hS:∀z,w.heap.size≤z→S z) :
  Calls Tryz.prog 99 #[ckV a b c d e f g,.int .i64 j,.int .i64 off,.int .i64 n] w (RetCk1 (fun C'=>Inv F G Z C') S w):=by
 obtain ⟨S1,s1,s2,s3⟩:=s1set hS;replace h:=h.weak s3;clear s3;obtain ⟨C,hCe⟩:∃C,C=C0:=⟨_,rfl⟩;obtain ⟨y,hye⟩:∃y,y=y0:=⟨_,rfl⟩;rw [←hCe] at h hI hj hcut;rw [←hye] at hj hsz hcut;clear hCe hye C0 y0;obtain ⟨cn,hcn⟩:∃cn,cn=clipN off n sz:=⟨_,rfl⟩;rw [←hcn] at hcut;obtain ⟨cnt,hcnt⟩:∃cnt,cnt=(if cn=0 then 0 else (off+cn+15) / 16 - off / 16):=⟨_,rfl⟩;rw [←hcnt] at hcut;have hcn2:cn≤n∧(cn=0∨off+cn≤sz):=by unfold clipN at hcn;omega
 have hc9:cnt≤9:=by rw [hcnt];split <;> omega
 have hpg:∀w',w.heap.size+1<w'.heap.size→Calls Tryz.prog 84 #[.int .i64 (off:Int),.int .i64 (cn:Int)] w' (RetIL (if cn=0 then [] else pagesL off cn) (fun z=>w.heap.size+1<z) w'):=fun w' hz=>by
  by_cases e:cn=0
  ·rw [if_pos e,e];exact pages0_w off _ w'
  ·rw [if_neg e];exact pages_w off cn _ w' (by omega) (by omega) (fun z hz'=>by omega)
 have hprt:=fun (p:Nat) (hp:p<8) w'=>part_w (p:Int) (off:Int) (cn:Int) w' ⟨by omega,by omega⟩ ⟨by omega,by omega⟩ ⟨by omega,by omega⟩;have hclr:=fun w' (hb:Below w.heap.size w w')=>clear_w C j off cn sz y a b c d e f g S1 w' (h.step hb) hI.ok hj hsz hs8 (hI.findOk hj) (by omega);have hl:=hI.ok;have HCS:=H_ (show ClrS F G Z off cn sz j cnt 0 C from ⟨hI,y,hj,fun m _ hm hw=>hcut m hm hw⟩);obtain ⟨A1,cf0,rfl,q1,q2⟩:=h.files.form;obtain ⟨A2,m2,c2,rfl⟩:=h.frames.cap;obtain ⟨A3,m3,c3,A4,m4,c4,A5,m5,c5,A6,m6,c6,A7,m7,c7,rfl,rfl,rfl,rfl,rfl⟩:=CkAt.caps5 h;obtain ⟨bf,of,kt,KB,kc,rfl,hbf,k1,k2,k3,k4,hcf⟩:=FlA.cells h.files hj;have hjl:=(g_l hj);have hl1:C.files.length≤100:=hl.files.2;have j2:(j:Int)<(C.files.length:Int):=by omega
 have j0:(0:Int)≤(j:Int):=by omega
 have H:=H_ h;have HL:=H_ hl;have HJ:=H_ hj;clear h hl hj k1 k2 k3 k4;have HSZ:=H_ hsz;have HCN:=H_ hcn;have HCT:=H_ hcnt;have z6w:w.cell? ⟨bf,of+j*15+6,none⟩=some (.int .i64 (sz:Int)):=by rw [←hsz];exact hcf 6 _ rfl
 have HZW:=H_ z6w;clear hcf hsz hcn z6w hcnt hcut hI;go_enter Tryz.func99,Tryz.ntmps99
 go_upto_region 1 with fail
 generalize hW9:(w.alloc _).alloc _=W;obtain ⟨HX,HR,HW,HZ⟩:=two_box hW9;clear hW9 HZ;obtain ⟨x0,x1,x2,x3,x4,x5,x6⟩:=cs7 HX.out;have z6:W.cell? ⟨bf,of+j*15+6,none⟩=some (.int .i64 (sz:Int)):=(cell_kept (HW.out.block _ hbf)).trans HZW.out
 go_cut [3] (fun s3 wx=>s3 = .int .i64 (cn:Int)∧wx=W)
 case first=>
  by_cases e1:(n:Int)≤(sz:Int) - (off:Int)
  ·have d1:decide ((n:Int)≤(sz:Int) - (off:Int))=true:=decide_eq_true e1;have d2:decide ((n:Int)<0)=false:=dF (by omega);have hcv:cn=n:=by have:=HCN.out;unfold clipN at this;omega
   have HCV:=H_ hcv;clear hcv;go_wp2;go_meet
   case rel=>exact ⟨by rw [HCV.out],rfl⟩
  ·have d1:decide ((n:Int)≤(sz:Int) - (off:Int))=false:=decide_eq_false e1
   by_cases e2:off≤sz
   ·have d2:decide ((sz:Int) - (off:Int)<0)=false:=dF (by omega);have hcv:(cn:Int)=(sz:Int) - (off:Int):=by have:=HCN.out;unfold clipN at this;omega
    have HCV:=H_ hcv;clear hcv;go_wp2;go_meet
    case rel=>exact ⟨by rw [HCV.out],rfl⟩
   ·have d2:decide ((sz:Int) - (off:Int)<0)=true:=dT (by omega);have hcv:(cn:Int)=0:=by have:=HCN.out;unfold clipN at this;omega
    have HCV:=H_ hcv;clear hcv;go_wp2;go_meet
    case rel=>exact ⟨by rw [HCV.out],rfl⟩
 case rest=>
  obtain ⟨rfl,rfl⟩:=hcut;clear x0 x1 x2 x3 x4 x5 x6 z6;obtain ⟨x0,x1,x2,x3,x4,x5,x6⟩:=cs7 HX.out
  go_upto_region 4 with (first
   | (go_at_call 98;go_loud (refine CM (hclr _ HW.out) ?_);rintro e w2 ⟨wh,cu,may,rfl,hcl,hb2⟩;have HX2:=bkh HX hb2;have HR2:=bkh HR hb2;have HW2:=blh HW hb2;clear hb2)
   | (go_at_call 84;go_loud (refine CM (hpg _ (bk_lt HR2.out)) ?_);rintro e w3 ⟨pv,rfl,hpv,hb3⟩;have HX3:=bkh HX2 hb3;have HR3:=bkh HR2 hb3;have HW3:=blh HW2 hb3;have HPV:=H_ (hpv.old);clear hpv hb3)
   | fail)
  rw [HCN.out,clip_idem,←HCN.out,←HCT.out] at hcl;have HCL:=H_ hcl;obtain ⟨B,hB⟩:∃B,B=w3.heap.size:=⟨_,rfl⟩;rw [←hB] at HPV;have hB1:w.heap.size+1<B:=by rw [hB];exact bk_lt HR3.out
  obtain ⟨lst,hlst⟩:∃lst,lst=(if cn=0 then [] else pagesL off cn):=⟨_,rfl⟩;rw [←hlst] at HPV;have hpl:lst.length=cnt:=by
   rw [hlst,HCT.out]
   split
   ·rfl
   ·rw [pagesL_len]
  obtain ⟨A8,cap8,hpv8,_,_⟩:=HPV.out.form;rw [hpl] at hpv8;subst hpv8;have HB:=H_ hB;have HLS:=H_ hlst;have HPL:=H_ hpl;clear hB hlst hpg hpl hcl hclr;go_wp2
  go_loopw [13] (fun s13 wx=>∃(k:Nat) (C:Ck) (a b c d e f g:Value),s13 = .int .i64 k∧k≤cnt∧ClrS F G Z off cn sz j cnt k C∧wx.heap[w.heap.size]?=some (.cells #[a,b,c,d,e,f,g] 30 (0,0))∧CkAt wx S1 a b c d e f g C∧LA IntR wx (fun z=>w.heap.size+1<z∧z<B) (.slice A8 cnt cap8) lst∧Below w.heap.size w wx∧B≤wx.heap.size∧wx.heap[w.heap.size+1]?=some (oCZ)) (fun s13 _=>100 - (intOf s13).toNat)
  case atStart=>exact ⟨0,C,_,_,_,_,_,_,_,rfl,by omega,HCS.out,HX3.out,H.out.step HW3.out,HPV.out,HW3.out,by rw [HB.out];exact Nat.le_refl _,HR3.out⟩
  case round=>
   clear HPV HW3 HX3 HR3 HX2 HR2 HW2 HX HR HW;have CB0:=HCL;clear H HJ HL HCS;obtain ⟨k,C,a,b,c,d,e,f,g,rfl,hk,hcs,hX,hC,hp,hb,hBs,hR⟩:=hrel;obtain ⟨hI,y,hj,hun⟩:=hcs;obtain ⟨A1,m1,c1,rfl⟩:=hC.files.cap;obtain ⟨A2,cr0,rfl,q3,q4⟩:=hC.frames.form;obtain ⟨A3,m3,c3,rfl⟩:=hC.zones.cap;obtain ⟨A4,m4,c4,rfl⟩:=hC.groups.cap;obtain ⟨A5,m5,c5,rfl⟩:=hC.lists.cap;obtain ⟨A6,m6,c6,rfl⟩:=hC.clocks.cap;obtain ⟨A7,m7,c7,rfl⟩:=hC.ptes.cap;have HI:=H_ hI;have HJ:=H_ hj;have HUN:=H_ hun;have HP:=H_ hp;have HW:=H_ hb;have HX:=H_ hX;have HR:=H_ hR;have HC:=H_ hC;have hbR:=bk_lt hR;obtain ⟨x0,x1,x2,x3,x4,x5,x6⟩:=cs7 hX;clear hb hX hR hI hun
   by_cases hlt:k<cnt
   ·have hcn0:cn≠0:=fun e=>by have:=HCT.out;rw [if_pos e] at this;omega
    have hcnt':cnt=(off+cn+15) / 16 - off / 16:=by have:=HCT.out;rw [if_neg hcn0] at this;exact this
    have hls':lst=pagesL off cn:=by have:=HLS.out;rw [if_neg hcn0] at this;exact this
    have hget:=pagesL_get off cn k (by omega);rw [←hls'] at hget;have hrg:=pg_range (off:=off) (n:=cn) (k:=k) (by omega) (by omega);obtain ⟨p,hpe⟩:∃p:Nat,p=off / 16+k:=⟨_,rfl⟩;rw [←hpe] at hget hrg;obtain ⟨r1,r2,r3⟩:=hrg;have HPE:=H_ hpe;have HGET:=H_ hget;obtain ⟨at',ct,hpt,hac⟩:∃at' ct:Nat,partI p off cn=((at':Int),(ct:Int))∧at'+ct≤16:=by
     obtain ⟨g1,g2,g3,g4⟩:=part_ok r1 r2;exact ⟨(partI p off cn).1.toNat,(partI p off cn).2.toNat,Prod.ext (by dsimp only;omega) (by dsimp only;omega),by omega⟩
    have hprt':∀w',Calls Tryz.prog 125 #[.int .i64 (p:Int),.int .i64 (off:Int),.int .i64 (cn:Int)] w' (RetQ (.tuple #[.int .i64 (at':Int),.int .i64 (ct:Int)]) w'):=fun w'=>by
     have:=hprt p r3 w';rw [hpt] at this;exact this
    have HPT:=H_ hpt;have hwb:(bits .and .i64 wh (wrap64 (2 ^ p)) != 0)=whB off cn sz p:=by
     have:=CB0.out.wb p r3
     cases hb:whB off cn sz p with
     | true=>exact this.2 ⟨k,hlt,hpe.symm,hb⟩
     | false=>exact Bool.eq_false_iff.2 fun h=>by obtain ⟨m,_,_,h3⟩:=this.1 h;rw [hb] at h3;cases h3
    have hcb:whB off cn sz p=false→(bits .and .i64 cu (wrap64 (2 ^ p)) != 0)=true:=fun hb=>(CB0.out.cb p r3).2 ⟨k,hlt,hpe.symm,hb⟩;have HWBI:=H_ hwb;have HCBI:=H_ hcb;obtain ⟨b8,o8,cap9,hv8,_,_,hb8,hb8s,l0⟩:=IL.cell hp hget;rw [HPL.out] at hv8;injection hv8 with e81 e82 e83
    subst e81 e83;clear hget hpe hp hpt hls' hcnt' hprt hcn0 e82 hwb hcb
    go_upto_region 7 with fail
    go_cut [14,15] (fun s14 s15 wx=>(∃(m:Int) (ok:Bool),s14 = .int .i64 m∧s15 = .bool ok∧(ok=false∧getR y.c p≤0∨ok=true∧∃(i:Nat) (x:Fr),m=(i:Int)+1∧getR y.c p=(i:Int)+1∧FrU C i x j y∧x.page=p))∧wx.heap[w.heap.size]?=some (.cells #[.slice A1 m1 c1,.slice A2 C.frames.length cr0,.slice A3 m3 c3,.slice A4 m4 c4,.slice A5 m5 c5,.slice A6 m6 c6,.slice A7 m7 c7] 30 (0,0))∧CkAt wx S1 (.slice A1 m1 c1) (.slice A2 C.frames.length cr0) (.slice A3 m3 c3) (.slice A4 m4 c4) (.slice A5 m5 c5) (.slice A6 m6 c6) (.slice A7 m7 c7) C∧LA IntR wx (fun z=>w.heap.size+1<z∧z<B) (.slice (some ⟨b8,o8,none⟩) cnt cap8) lst∧Below w.heap.size w wx∧B≤wx.heap.size∧wx.heap[w.heap.size+1]?=some (oCZ))
    case first=>
     have xe:=ext_cell wr;have hbX:=bk_lt HX.out
     by_cases hv:getR y.c p≤0
     ·have HV:=H_ hv;have hfq:∀z,Calls Tryz.prog 23 #[ckV (.slice A1 m1 c1) (.slice A2 C.frames.length cr0) (.slice A3 m3 c3) (.slice A4 m4 c4) (.slice A5 m5 c5) (.slice A6 m6 c6) (.slice A7 m7 c7),.int .i64 j,.int .i64 p] (ext wr z) (fun e w''=>e = .returned (.tuple #[.int .i64 0,.bool false])∧Below (ext wr z).heap.size (ext wr z) w''):=fun z=>by
       have:=find_w40 C j y p _ _ _ _ _ _ _ S1 (ext wr z) (hC.step (below_ext wr z)) hj;unfold RetFd fdV at this;rw [if_pos hv] at this;exact this
      clear hv hj hC;refine wp_region_ext (by kernel_rfl) (by kernel_rfl) ?_
      repeat (go_big_quiet_step ((exact ext_call (hfq _))))
      refine wpQuiet_nil ?_;rintro w' ⟨z,rfl⟩;go_wp2;go_meet
      case rel=>exact ⟨⟨0,false,rfl,rfl,.inl ⟨rfl,HV.out⟩⟩,bk_step HX.out (below_ext wr z),HC.out.step (below_ext wr z),HP.out.step (below_ext wr z),bl_step HW.out (below_ext wr z),Nat.le_trans hBs (below_ext wr z).size,bk_step HR.out (below_ext wr z)⟩
     ·obtain ⟨i,x,hgi,hU,hxp⟩:=HI.out.findOk hj p (by omega);have hfq:∀z,Calls Tryz.prog 23 #[ckV (.slice A1 m1 c1) (.slice A2 C.frames.length cr0) (.slice A3 m3 c3) (.slice A4 m4 c4) (.slice A5 m5 c5) (.slice A6 m6 c6) (.slice A7 m7 c7),.int .i64 j,.int .i64 p] (ext wr z) (fun e w''=>e = .returned (.tuple #[.int .i64 ((i:Int)+1),.bool true])∧Below (ext wr z).heap.size (ext wr z) w''):=fun z=>by
       have:=find_w40 C j y p _ _ _ _ _ _ _ S1 (ext wr z) (hC.step (below_ext wr z)) hj;unfold RetFd fdV at this;rw [if_neg hv,hgi] at this;exact this
      have HU:=H_ hU;have HGI:=H_ hgi;have HXP:=H_ hxp;clear hv hU hgi hxp hj hC;refine wp_region_ext (by kernel_rfl) (by kernel_rfl) ?_
      repeat (go_big_quiet_step ((exact ext_call (hfq _))))
      refine wpQuiet_nil ?_;rintro w' ⟨z,rfl⟩;go_wp2;go_meet
      case rel=>exact ⟨⟨_,true,rfl,rfl,.inr ⟨rfl,i,x,rfl,HGI.out,HU.out,HXP.out⟩⟩,bk_step HX.out (below_ext wr z),HC.out.step (below_ext wr z),HP.out.step (below_ext wr z),bl_step HW.out (below_ext wr z),Nat.le_trans hBs (below_ext wr z).size,bk_step HR.out (below_ext wr z)⟩
    case rest=>
     clear x0 x1 x2 x3 x4 x5 x6 l0 HP HW HX HR HC hC hj;obtain ⟨⟨m,ok,rfl,rfl,hok⟩,hX,hC,hp,hb,hBs,hR⟩:=hcut;have HP:=H_ hp;have HW:=H_ hb;have HX:=H_ hX;have HR:=H_ hR;have HC:=H_ hC;have HOK:=H_ hok;obtain ⟨b8',o8',cap8',hv8',_,_,hb8',_,l0⟩:=IL.cell hp HGET.out;rw [HPL.out] at hv8';injection hv8' with ee ee3 ee4
     clear ee3 ee4;injection ee with ee
     injection ee with ee1 ee2
     subst ee1 ee2;have hbc:w.heap.size+1<wc.heap.size:=by omega
     obtain ⟨x0,x1,x2,x3,x4,x5,x6⟩:=cs7 hX;clear hp hb hX hR hok
     cases hwh:whB off cn sz p with
     | true=>
      have hw1:(bits .and .i64 wh (wrap64 (2 ^ p)) != 0)=true:=HWBI.out.trans hwh;have HWH:=H_ hwh;clear hwh
      go_upto_if 66 with fail
      go_cut [] (fun wx=>∃(Cx:Ck) (yx:Fl) (gf nf cf gr nr cr:Nat) (c' d':Value) (gl nl cl gk nk ck:Nat) (g':Value) (Bx:Nat),wx.heap[w.heap.size]?=some (.cells #[.slice (some ⟨gf,0,none⟩) nf cf,.slice (some ⟨gr,0,none⟩) nr cr,c',d',.slice (some ⟨gl,0,none⟩) nl cl,.slice (some ⟨gk,0,none⟩) nk ck,g'] 30 (0,0))∧CpL wx S1 Bx gf nf cf gr nr cr c' d' gl nl cl gk nk ck g' Cx∧w.heap.size+1<Bx∧B≤Bx∧Cx.files[j]?=some yx∧(∀bl,ClrS F G Z off cn sz j cnt (k+1) {Cx with files:=Cx.files.set j {yx with blocks:=bl}})∧LA IntR wx (fun z=>w.heap.size+1<z∧z<B) (.slice (some ⟨b8,o8,none⟩) cnt cap8) lst∧Below w.heap.size w wx∧B≤wx.heap.size∧wx.heap[w.heap.size+1]?=some (oCZ))
      case first=>
       rcases HOK.out with ⟨rfl,hv⟩ | ⟨rfl,i,x,rfl,hgi,hU,hxp⟩
       ·have HKEEP:=H_ (show ∀bl,ClrS F G Z off cn sz j cnt (k+1) {C with files:=C.files.set j {y with c:=(setR y.c p 0).1,blocks:=bl}} from fun bl=>by
         refine ClrS.keep0 HUN.out (HI.out.unset HJ.out r3 hv bl) (get_self HJ.out) rfl (fun q hq=>?_)
         show getR (setR y.c p 0).1 q=getR y.c q
         rw [getR_setR (by unfold inB;simp;omega),if_neg (fun e=>hq (by rw [e,HPE.out]))])
        have hcp:=copyL_w C _ _ _ _ _ _ _ S1 wc HC.out HI.out.ok (fun z hz=>s2 z (by omega));clear hv
        go_upto_region 12 with (first
         | (go_at_call 69;go_loud (refine CM hcp ?_);rintro e w5 ⟨gf,nf,cf,gr,nr,cr,c',d',gl,nl,cl,gk,nk,ck,g',rfl,hc5,hb5⟩;obtain ⟨P3,n3,r3,rfl⟩:=hc5.zones.cap;obtain ⟨P4,n4,r4,rfl⟩:=hc5.groups.cap;obtain ⟨P7,n7,r7,rfl⟩:=hc5.ptes.cap;have HX5:=bkh HX hb5)
         | (refine st_ck rfl (.tmp 4) (.tmp 71) rfl rfl w.heap.size rfl rfl HX5.out rfl ?_)
         | fail)
        have HX6:=H_ (show (w5.setRow w.heap.size #[.slice (some ⟨gf,0,none⟩) nf cf,.slice (some ⟨gr,0,none⟩) nr cr,.slice P3 n3 r3,.slice P4 n4 r4,.slice (some ⟨gl,0,none⟩) nl cl,.slice (some ⟨gk,0,none⟩) nk ck,.slice P7 n7 r7]).heap[w.heap.size]?=some (.cells #[.slice (some ⟨gf,0,none⟩) nf cf,.slice (some ⟨gr,0,none⟩) nr cr,.slice P3 n3 r3,.slice P4 n4 r4,.slice (some ⟨gl,0,none⟩) nl cl,.slice (some ⟨gk,0,none⟩) nk ck,.slice P7 n7 r7] 30 (0,0)) from setRow_heap _ _ _ _ _ _ HX5.out);have HC6:=H_ (hc5.setRow w.heap.size #[.slice (some ⟨gf,0,none⟩) nf cf,.slice (some ⟨gr,0,none⟩) nr cr,.slice P3 n3 r3,.slice P4 n4 r4,.slice (some ⟨gl,0,none⟩) nl cl,.slice (some ⟨gk,0,none⟩) nk ck,.slice P7 n7 r7] (fun hz=>(s1 _ hz).2.1 rfl) (by omega));have HP6:=H_ ((HP.out.step hb5).kept (KeepS.of_setRow w5 w.heap.size #[.slice (some ⟨gf,0,none⟩) nf cf,.slice (some ⟨gr,0,none⟩) nr cr,.slice P3 n3 r3,.slice P4 n4 r4,.slice (some ⟨gl,0,none⟩) nl cl,.slice (some ⟨gk,0,none⟩) nk ck,.slice P7 n7 r7] (fun hz=>by have:=hz.1;omega)));have HW6:=H_ (bl_setRow (bl_step HW.out hb5) (Nat.le_refl _) #[.slice (some ⟨gf,0,none⟩) nf cf,.slice (some ⟨gr,0,none⟩) nr cr,.slice P3 n3 r3,.slice P4 n4 r4,.slice (some ⟨gl,0,none⟩) nl cl,.slice (some ⟨gk,0,none⟩) nk ck,.slice P7 n7 r7]);have HR6:=H_ ((setRow_other w5 w.heap.size (w.heap.size+1) #[.slice (some ⟨gf,0,none⟩) nf cf,.slice (some ⟨gr,0,none⟩) nr cr,.slice P3 n3 r3,.slice P4 n4 r4,.slice (some ⟨gl,0,none⟩) nl cl,.slice (some ⟨gk,0,none⟩) nk ck,.slice P7 n7 r7] (by omega)).trans (bk_step HR.out hb5));have hB6:B≤(w5.setRow w.heap.size #[.slice (some ⟨gf,0,none⟩) nf cf,.slice (some ⟨gr,0,none⟩) nr cr,.slice P3 n3 r3,.slice P4 n4 r4,.slice (some ⟨gl,0,none⟩) nl cl,.slice (some ⟨gk,0,none⟩) nk ck,.slice P7 n7 r7]).heap.size:=by have:=hb5.size;simp [World.setRow];omega
        generalize w5.setRow w.heap.size #[.slice (some ⟨gf,0,none⟩) nf cf,.slice (some ⟨gr,0,none⟩) nr cr,.slice P3 n3 r3,.slice P4 n4 r4,.slice (some ⟨gl,0,none⟩) nl cl,.slice (some ⟨gk,0,none⟩) nk ck,.slice P7 n7 r7]=W6 at HX6 HC6 HP6 HW6 HR6 hB6;clear hc5 hb5 HX5 hcp l0 x0 x1 x2 x3 x4 x5 x6;obtain ⟨r9,⟨kt,KB,kc,k1,k2,k3,k4,rfl⟩,hc9'⟩:=HC6.out.files.at_ HJ.out;have z2:W6.cell? ⟨gf,j*15+2,none⟩=some (.int .i64 kt):=hc9' 2 _ rfl;have z3:=hc9' 3 _ rfl;have z4:W6.cell? ⟨gf,j*15+4,none⟩=some (.int .i64 (cano kt y.c).val):=hc9' 4 _ rfl;have z5:W6.cell? ⟨gf,j*15+5,none⟩=some (.int .i64 (cano kt y.c).marks):=hc9' 5 _ rfl;have HLf:=H_ k1;have hord:w.heap.size+1<gf∧gf<gr∧gr<gl∧gl<gk:=⟨by have:=HC6.out.o1;omega,HC6.out.o2,HC6.out.o3,HC6.out.o4⟩;have hlk6:=HC6.out.lt;have hset:=fun w' (hb:Below W6.heap.size W6 w')=>rSet_w kt y.c KB kc (TS S1 gf gr gl gk) p 0 w' k1 k2 k3 (k4.step hb) (fun z hz=>⟨s2 z (by have:=hb.size;omega),by have:=hb.size;omega,by have:=hb.size;omega,by have:=hb.size;omega,by have:=hb.size;omega⟩);obtain ⟨b9',o9',cap9',hv9',_,_,hb9',_,l0⟩:=IL.cell HP6.out HGET.out;rw [HPL.out] at hv9';injection hv9' with ee ee3 ee4
        clear ee3 ee4;injection ee with ee
        injection ee with ee1 ee2
        subst ee1 ee2;obtain ⟨x0,x1,x2,x3,x4,x5,x6⟩:=cs7 HX6.out;have hlx:=bk_lt HX6.out;have hlg:=HC6.out.files.lt;have hnf:(j:Int)<(nf:Int):=by have:=HC6.out.ef;have:=(g_l HJ.out);omega
        have hnf2:nf≤1000:=by have:=HC6.out.ef;have:=HI.out.ok.files.2;omega
        clear hc9' k1 k2 k3 k4;refine wp_region_sk (S:=TS S1 gf gr gl gk) 145 19 (inL [0,1,2,3,4,5,6,7,8,9,10,11,12,13,14,15,17,18]) (fun wx=>CpL wx S1 wc.heap.size gf nf cf gr nr cr (.slice P3 n3 r3) (.slice P4 n4 r4) gl nl cl gk nk ck (.slice P7 n7 r7) (⟨C.files.set j ⟨y.dev,y.slot,(setR y.c p 0).1,y.size,y.blocks,y.ecnt,y.eerr,y.sseq,y.ssize,y.sblocks,y.which,y.seq⟩,C.frames,C.zones,C.groups,C.lists,C.clocks,C.ptes⟩:Ck)∧wx.heap[w.heap.size]?=some (.cells #[.slice (some ⟨gf,0,none⟩) nf cf,.slice (some ⟨gr,0,none⟩) nr cr,.slice P3 n3 r3,.slice P4 n4 r4,.slice (some ⟨gl,0,none⟩) nl cl,.slice (some ⟨gk,0,none⟩) nk ck,.slice P7 n7 r7] 30 (0,0))∧LA IntR wx (fun z=>w.heap.size+1<z∧z<B) (.slice (some ⟨b8,o8,none⟩) cnt cap8) lst∧Below w.heap.size w wx∧B≤wx.heap.size∧wx.heap[w.heap.size+1]?=some (oCZ)) [SK.eq (.pointer (some ⟨w.heap.size,0,none⟩)),SK.eq (.slice (some ⟨gf,0,none⟩) nf cf),SK.eq (.int .i64 (j:Int)),SK.eq (.pointer (some ⟨w.heap.size,0,none⟩)),SK.eq (.slice (some ⟨gf,0,none⟩) nf cf),SK.eq (.int .i64 (j:Int)),SK.eq (.pointer (some ⟨gf,j*15,none⟩)),SK.eq (.pointer (some ⟨gf,j*15+2,none⟩)),SK.eq (.agg #[.int .i64 kt,.slice KB (cano kt y.c).kids.length kc,.int .i64 (cano kt y.c).val,.int .i64 (cano kt y.c).marks]),SK.eq (.slice (some ⟨b8,o8,none⟩) cnt cap8),SK.eq (.int .i64 (k:Int)),SK.eq (.pointer (some ⟨b8,o8+k,none⟩)),SK.eq (.int .i64 (p:Int)),SK.tr2 (TS S1 gf gr gl gk) (setR y.c p 0).1 (setR y.c p 0).2 (fun _ h=>h),SK.tr2 (TS S1 gf gr gl gk) (setR y.c p 0).1 (setR y.c p 0).2 (fun _ h=>h),SK.tr1 (TS S1 gf gr gl gk) (setR y.c p 0).1 (fun _ h=>h),SK.eq (.int .i64 (setR y.c p 0).2),SK.eq (.pointer (some ⟨gf,j*15,none⟩)),SK.eq (.pointer (some ⟨gf,j*15+2,none⟩)),SK.any] (by kernel_rfl) (by kernel_rfl) rfl (fun _=>trivial) ?_;refine rP rfl rfl (fun xw hC hd K hK=>?_) (fun v0=>?_)
        ·go_simp;exact hK _ _ hC K_ rfl
        simp only [ly];refine rP rfl rfl (fun xw hC hd K hK=>?_) (fun v1=>?_)
        ·obtain rfl:v0=_:=hd 0 (by kernel_rfl);have hC':Below W6.heap.size W6 xw:=hC;have u0:=(hC'.cell (p:=⟨w.heap.size,_,none⟩) hlx).trans x0;go_simp;exact hK _ _ hC K_ rfl
        simp only [ly];refine rP rfl rfl (fun xw hC hd K hK=>?_) (fun v2=>?_)
        ·go_simp;exact hK _ _ hC K_ rfl
        simp only [ly];refine rP rfl rfl (fun xw hC hd K hK=>?_) (fun v3=>?_)
        ·go_simp;exact hK _ _ hC K_ rfl
        simp only [ly];refine rP rfl rfl (fun xw hC hd K hK=>?_) (fun v4=>?_)
        ·obtain rfl:v3=_:=hd 3 (by kernel_rfl);have hC':Below W6.heap.size W6 xw:=hC;have u0:=(hC'.cell (p:=⟨w.heap.size,_,none⟩) hlx).trans x0;go_simp;exact hK _ _ hC K_ rfl
        simp only [ly];refine rP rfl rfl (fun xw hC hd K hK=>?_) (fun v5=>?_)
        ·go_simp;exact hK _ _ hC K_ rfl
        simp only [ly];refine rP rfl rfl (fun xw hC hd K hK=>?_) (fun v6=>?_)
        ·obtain rfl:v4=_:=hd 4 (by kernel_rfl);obtain rfl:v5=_:=hd 5 (by kernel_rfl);go_simp;exact hK _ _ hC K_ rfl
        simp only [ly];refine rP rfl rfl (fun xw hC hd K hK=>?_) (fun v7=>?_)
        ·obtain rfl:v6=_:=hd 6 (by kernel_rfl);go_simp;exact hK _ _ hC K_ rfl
        simp only [ly];refine rP rfl rfl (fun xw hC hd K hK=>?_) (fun v8=>?_)
        ·obtain rfl:v7=_:=hd 7 (by kernel_rfl);have hC':Below W6.heap.size W6 xw:=hC;have u0:=(hC'.cell (p:=⟨gf,_,none⟩) hlg).trans z2;have u1:=(hC'.cell (p:=⟨gf,_,none⟩) hlg).trans z3;have u2:=(hC'.cell (p:=⟨gf,_,none⟩) hlg).trans z4;have u3:=(hC'.cell (p:=⟨gf,_,none⟩) hlg).trans z5;go_simp;exact hK _ _ hC K_ rfl
        simp only [ly];refine rP rfl rfl (fun xw hC hd K hK=>?_) (fun v9=>?_)
        ·go_simp;exact hK _ _ hC K_ rfl
        simp only [ly];refine rP rfl rfl (fun xw hC hd K hK=>?_) (fun v10=>?_)
        ·go_simp;exact hK _ _ hC K_ rfl
        simp only [ly];refine rP rfl rfl (fun xw hC hd K hK=>?_) (fun v11=>?_)
        ·obtain rfl:v9=_:=hd 9 (by kernel_rfl);obtain rfl:v10=_:=hd 10 (by kernel_rfl);go_simp;exact hK _ _ hC K_ rfl
        simp only [ly];refine rP rfl rfl (fun xw hC hd K hK=>?_) (fun v12=>?_)
        ·obtain rfl:v11=_:=hd 11 (by kernel_rfl);have hC':Below W6.heap.size W6 xw:=hC;have u0:=(hC'.cell (p:=⟨b8,_,none⟩) hb9').trans l0;go_simp;exact hK _ _ hC K_ rfl
        simp only [ly];refine rP rfl rfl (fun xw hC hd K hK=>?_) (fun v13=>?_)
        ·obtain rfl:v8=_:=hd 8 (by kernel_rfl);obtain rfl:v12=_:=hd 12 (by kernel_rfl);have hC':Below W6.heap.size W6 xw:=hC;go_simp
         go_at_call 71
         refine (hset xw hC').mono ?_;rintro e w1 ⟨h1,A1,p1,rfl,t1,c1,n1,hb⟩;exact hK _ _ (bl_step hC' hb) (KeepS.of_below hb) ⟨h1,A1,p1,rfl,t1,c1,n1⟩
        simp only [ly];refine rP rfl rfl (fun xw hC hd K hK=>?_) (fun v14=>?_)
        ·obtain ⟨h1,A1,p1,e,t1,c1,n1⟩:=hd 13 (by kernel_rfl);obtain rfl:v13=_:=e;go_simp;exact hK _ _ hC K_ ⟨h1,A1,p1,rfl,t1,c1,n1⟩
        simp only [ly];refine rP rfl rfl (fun xw hC hd K hK=>?_) (fun v15=>?_)
        ·obtain ⟨h1,A1,p1,e,t1,c1,n1⟩:=hd 14 (by kernel_rfl);obtain rfl:v14=_:=e;go_simp;exact hK _ _ hC K_ ⟨h1,A1,p1,rfl,t1,c1,n1⟩
        simp only [ly];refine rA rfl (fun w=>KeepS.refl w) (fun xw hd K hK=>?_) (fun v16=>?_)
        ·obtain ⟨h1,A1,p1,e,t1,c1,n1⟩:=hd 14 (by kernel_rfl);obtain rfl:v14=_:=e;go_simp;exact hK _ rfl
        simp only [ly];refine rP rfl rfl (fun xw hC hd K hK=>?_) (fun v17=>?_)
        ·obtain rfl:v1=_:=hd 1 (by kernel_rfl);obtain rfl:v2=_:=hd 2 (by kernel_rfl);go_simp;exact hK _ _ hC K_ rfl
        simp only [ly];refine rP rfl rfl (fun xw hC hd K hK=>?_) (fun v18=>?_)
        ·obtain rfl:v17=_:=hd 17 (by kernel_rfl);go_simp;exact hK _ _ hC K_ rfl
        simp only [ly];refine rS (fun xw hC hd K hK=>?_) (fun v19=>?_)
        ·obtain rfl:v18=_:=hd 18 (by kernel_rfl);obtain ⟨h1,A1,p1,e,t1,c1,n1⟩:=hd 15 (by kernel_rfl);obtain rfl:v15=_:=e;have hC':Below W6.heap.size W6 xw:=hC;have HC7:=HC6.out.step hC';have hth:=LW.there HC7.files (i:=j) (g_l HJ.out) (p:=2) (n:=4) (by omega);refine wp_of_list (ops:=#[]) rfl (wpList_store_mid rfl 72 (.tmp 90) (.tmp 87) rfl gf (j*15+2) #[.int .i64 (h1:Int),.slice A1 (cano h1 (setR y.c p 0).1).kids.length p1,.int .i64 (cano h1 (setR y.c p 0).1).val,.int .i64 (cano h1 (setR y.c p 0).1).marks] rfl rfl hth tree_size (tree_one _ _ _ _ _ _) ?_);refine hK undef _ ⟨HC7.putFiles (gb_setCells xw gf (j*15+2) _) (LW.tree HC7.files HJ.out (setR_leafy HLf.out _ _) t1 c1 n1) (by simp),?_,?_,?_,?_,?_⟩ (KeepS.of_setCells _ _ _ _ (fun h=>h.2.1 rfl)) trivial
         ·exact (heap_setCells gf _ (j*15+2) xw w.heap.size (by omega)).trans (bk_step HX6.out hC')
         ·exact (HP6.out.step hC').kept (KeepS.of_setCells _ _ _ _ (fun h=>by have:=h.2;have:=HC6.out.o1;omega))
         ·exact bl_setCells (bl_step HW6.out hC') (by omega) _ _
         ·rw [setCells_size];exact Nat.le_trans hB6 hC'.size
         ·exact (heap_setCells gf _ (j*15+2) xw (w.heap.size+1) (by omega)).trans (bk_step HR6.out hC')
        simp only [ly];refine relWalkA_nil ?_;intro wz hD hG;clear hG;go_wp2;go_meet
        case rel=>
         obtain ⟨hC7,hX7,hP7,hW7,hB7,hR7⟩:=hD;exact ⟨_,_,gf,nf,cf,gr,nr,cr,_,_,gl,nl,cl,gk,nk,ck,_,wc.heap.size,hX7,hC7,hbc,hBs,get_self HJ.out,fun bl=>by simpa only [List.set_set] using HKEEP.out bl,hP7,hW7,hB7,hR7⟩
       ·obtain ⟨t,k',l,gp,z,clk,hg,hclk⟩:=HI.out.goneH hU;have hgo:=gone_w C i j t k' x y l gp z 0 _ _ _ _ _ _ _ S1 wc HC.out HI.out.ok hU hg (fun z hz=>s2 z (by omega));have HKEEP:=H_ (show ∀bl,ClrS F G Z off cn sz j cnt (k+1) {goneC C i j t k' x y l gp z 0 with files:=(goneC C i j t k' x y l gp z 0).files.set j {({y with c:=(setR y.c x.page 0).1}:Fl) with blocks:=bl}} from fun bl=>by
         have hIg:=HI.out.gone hU hg (Int.le_refl 0) C.clocks HI.out.nk;refine ClrS.keep HUN.out hU.fr (hxp.trans (by rw [HPE.out])) (hIg.blocks (get_self HJ.out) bl) (get_self (get_self HJ.out)) (fun i' hi' u hu=>get_set hi' hu) (fun q hq=>?_)
         show getR (setR y.c x.page 0).1 q=getR y.c q
         rw [getR_setR (page_inB hU.ok),if_neg (fun e=>hq (by rw [e,hxp,HPE.out]))])
        clear hgi hU hxp hg hclk
        go_wp2_with (first
         | (go_at_call 97;go_loud (refine CM hgo ?_);rintro e w5 ⟨gf,nf,cf,gr,nr,cr,c',d',gl,nl,cl,gk,nk,ck,g',rfl,hc5,hb5⟩;obtain ⟨P3,n3,r3,rfl⟩:=hc5.zones.cap;obtain ⟨P4,n4,r4,rfl⟩:=hc5.groups.cap;obtain ⟨P7,n7,r7,rfl⟩:=hc5.ptes.cap;have HX5:=bkh HX hb5;have HB5:=H_ hb5;have HC5:=H_ hc5;clear hc5 hb5)
         | (refine st_ck rfl (.tmp 4) (.tmp 69) rfl rfl w.heap.size rfl rfl HX5.out rfl ?_))
        go_meet
        case rel=>exact ⟨goneC C i j t k' x y l gp z 0,_,gf,nf,cf,gr,nr,cr,_,_,gl,nl,cl,gk,nk,ck,_,wc.heap.size,setRow_heap _ _ _ _ _ _ HX5.out,HC5.out.setRow _ _ (fun hz=>(s1 _ hz).2.1 rfl) (by omega),hbc,hBs,get_self HJ.out,HKEEP.out,(HP.out.step HB5.out).kept (KeepS.of_setRow _ _ _ (fun hz=>by have:=hz.1;omega)),bl_setRow (bl_step HW.out HB5.out) (Nat.le_refl _) _,by have:=HB5.out.size;simp [World.setRow];omega,(setRow_other _ _ _ _ (by omega)).trans (bk_step HR.out HB5.out)⟩
      case rest=>
       clear HP HW HX HR HC hC l0 x0 x1 x2 x3 x4 x5 x6;obtain ⟨Cx,yx,gf,nf,cf,gr,nr,cr,c',d',gl,nl,cl,gk,nk,ck,g',Bx,hX,hC,hBx,hBBx,hjx,hkx,hp,hb,hBs',hR⟩:=hcut;have HX6:=H_ hX;have HC6:=H_ hC;have HP6:=H_ hp;have HW6:=H_ hb;have HR6:=H_ hR;have HKX:=H_ hkx;have HJX:=H_ hjx;have hord:Bx≤gf∧gf<gr∧gr<gl∧gl<gk:=⟨hC.o1,hC.o2,hC.o3,hC.o4⟩;obtain ⟨b9',o9',cap9',hv9',_,_,hb9',_,l0⟩:=IL.cell hp HGET.out;rw [HPL.out] at hv9';injection hv9' with ee ee3 ee4
       clear ee3 ee4;injection ee with ee
       injection ee with ee1 ee2
       subst ee1 ee2;obtain ⟨z7,z8,z9,z6⟩:=LW.fl_at hC.files hjx;have hjf:j<Cx.files.length:=(g_l hjx);have hnf:(j:Int)<(nf:Int):=by have:=hC.ef;omega
       have hnf2:nf≤1000:=by have:=hC.ef;have:=(hkx 0).1.ok.files.2;simp at this;omega
       obtain ⟨x0,x1,x2,x3,x4,x5,x6⟩:=cs7 hX;have hlx:=bk_lt hX;have hlg:=hC.files.lt;clear hX hC hp hb hR hkx hjx
       go_upto_region 13 with fail
       refine wp_region_sk (S:=TS S1 gf gr gl gk) 145 14 (fun i=>decide (i≤13)) (fun wx=>CpL wx S1 Bx gf nf cf gr nr cr c' d' gl nl cl gk nk ck g' (⟨Cx.files.set j ⟨yx.dev,yx.slot,yx.c,yx.size,bits .andNot .i64 yx.blocks (wrap64 (2 ^ p)),yx.ecnt,yx.eerr,yx.sseq,yx.ssize,yx.sblocks,yx.which,yx.seq⟩,Cx.frames,Cx.zones,Cx.groups,Cx.lists,Cx.clocks,Cx.ptes⟩:Ck)∧wx.heap[w.heap.size]?=some (.cells #[.slice (some ⟨gf,0,none⟩) nf cf,.slice (some ⟨gr,0,none⟩) nr cr,c',d',.slice (some ⟨gl,0,none⟩) nl cl,.slice (some ⟨gk,0,none⟩) nk ck,g'] 30 (0,0))∧LA IntR wx (fun z=>w.heap.size+1<z∧z<B) (.slice (some ⟨b8,o8,none⟩) cnt cap8) lst∧Below w.heap.size w wx∧B≤wx.heap.size∧wx.heap[w.heap.size+1]?=some (oCZ)) [SK.eq (.pointer (some ⟨w.heap.size,0,none⟩)),SK.eq (.slice (some ⟨gf,0,none⟩) nf cf),SK.eq (.int .i64 (j:Int)),SK.eq (.pointer (some ⟨gf,j*15,none⟩)),SK.eq (.pointer (some ⟨gf,j*15+7,none⟩)),SK.eq (.int .i64 yx.blocks),SK.eq (.slice (some ⟨b8,o8,none⟩) cnt cap8),SK.eq (.int .i64 (k:Int)),SK.eq (.pointer (some ⟨b8,o8+k,none⟩)),SK.eq (.int .i64 (p:Int)),SK.eq (.int .i64 (wrap64 (2 ^ p))),SK.eq (.int .i64 (bits .andNot .i64 yx.blocks (wrap64 (2 ^ p)))),SK.eq (.pointer (some ⟨gf,j*15,none⟩)),SK.eq (.pointer (some ⟨gf,j*15+7,none⟩)),SK.any] (by kernel_rfl) (by kernel_rfl) rfl (fun _=>trivial) ?_;refine rP rfl rfl (fun xw hC hd K hK=>?_) (fun v0=>?_)
       ·go_simp;exact hK _ _ hC K_ rfl
       simp only [ly];refine rP rfl rfl (fun xw hC hd K hK=>?_) (fun v1=>?_)
       ·obtain rfl:v0=_:=hd 0 (by kernel_rfl);have hC':Below wc.heap.size wc xw:=hC;have u0:=(hC'.cell (p:=⟨w.heap.size,_,none⟩) hlx).trans x0;go_simp;exact hK _ _ hC K_ rfl
       simp only [ly];refine rP rfl rfl (fun xw hC hd K hK=>?_) (fun v2=>?_)
       ·go_simp;exact hK _ _ hC K_ rfl
       simp only [ly];refine rP rfl rfl (fun xw hC hd K hK=>?_) (fun v3=>?_)
       ·obtain rfl:v1=_:=hd 1 (by kernel_rfl);obtain rfl:v2=_:=hd 2 (by kernel_rfl);go_simp;exact hK _ _ hC K_ rfl
       simp only [ly];refine rP rfl rfl (fun xw hC hd K hK=>?_) (fun v4=>?_)
       ·obtain rfl:v3=_:=hd 3 (by kernel_rfl);go_simp;exact hK _ _ hC K_ rfl
       simp only [ly];refine rP rfl rfl (fun xw hC hd K hK=>?_) (fun v5=>?_)
       ·obtain rfl:v4=_:=hd 4 (by kernel_rfl);have hC':Below wc.heap.size wc xw:=hC;have u0:=(hC'.cell (p:=⟨gf,_,none⟩) hlg).trans z7;go_simp;exact hK _ _ hC K_ rfl
       simp only [ly];refine rP rfl rfl (fun xw hC hd K hK=>?_) (fun v6=>?_)
       ·go_simp;exact hK _ _ hC K_ rfl
       simp only [ly];refine rP rfl rfl (fun xw hC hd K hK=>?_) (fun v7=>?_)
       ·go_simp;exact hK _ _ hC K_ rfl
       simp only [ly];refine rP rfl rfl (fun xw hC hd K hK=>?_) (fun v8=>?_)
       ·obtain rfl:v6=_:=hd 6 (by kernel_rfl);obtain rfl:v7=_:=hd 7 (by kernel_rfl);go_simp;exact hK _ _ hC K_ rfl
       simp only [ly];refine rP rfl rfl (fun xw hC hd K hK=>?_) (fun v9=>?_)
       ·obtain rfl:v8=_:=hd 8 (by kernel_rfl);have hC':Below wc.heap.size wc xw:=hC;have u0:=(hC'.cell (p:=⟨b8,_,none⟩) hb9').trans l0;go_simp;exact hK _ _ hC K_ rfl
       simp only [ly];refine rP rfl rfl (fun xw hC hd K hK=>?_) (fun v10=>?_)
       ·obtain rfl:v9=_:=hd 9 (by kernel_rfl);go_simp;exact hK _ _ hC K_ (by first | rfl | (show Value.int _ _=Value.int _ _;simp;done) | (show Value.int _ _=Value.int _ _;simp [IntKind.wrap_i64,wrap64];done) | (show Value.int _ _=Value.int _ _;simp [IntKind.wrap_i64];omega))
       simp only [ly];refine rP rfl rfl (fun xw hC hd K hK=>?_) (fun v11=>?_)
       ·obtain rfl:v5=_:=hd 5 (by kernel_rfl);obtain rfl:v10=_:=hd 10 (by kernel_rfl);go_simp;exact hK _ _ hC K_ (by first | rfl | (show Value.int _ _=Value.int _ _;simp;done) | (show Value.int _ _=Value.int _ _;simp [IntKind.wrap_i64,wrap64];done) | (show Value.int _ _=Value.int _ _;simp [IntKind.wrap_i64];omega))
       simp only [ly];refine rP rfl rfl (fun xw hC hd K hK=>?_) (fun v12=>?_)
       ·obtain rfl:v1=_:=hd 1 (by kernel_rfl);obtain rfl:v2=_:=hd 2 (by kernel_rfl);go_simp;exact hK _ _ hC K_ rfl
       simp only [ly];refine rP rfl rfl (fun xw hC hd K hK=>?_) (fun v13=>?_)
       ·obtain rfl:v12=_:=hd 12 (by kernel_rfl);go_simp;exact hK _ _ hC K_ rfl
       simp only [ly];refine rS (fun xw hC hd K hK=>?_) (fun v14=>?_)
       ·obtain rfl:v13=_:=hd 13 (by kernel_rfl);obtain rfl:v11=_:=hd 11 (by kernel_rfl);have hC':Below wc.heap.size wc xw:=hC;have HC7:=HC6.out.step hC';obtain ⟨⟨u,hu⟩,hfz⟩:=HC7.files.slot hjf (p:=7) (by omega);go_simp;have hfin:=HC7.putFiles (gb_setCells xw gf (j*15+7) [.int .i64 (bits .andNot .i64 yx.blocks (wrap64 (2 ^ p)))]) (HC7.files.blocks HJX.out _) (by simp);refine hK undef _ ⟨hfin,?_,?_,?_,?_,?_⟩ (KeepS.of_setCell _ _ _ (fun h=>h.2.1 rfl)) trivial
        ·exact (Below.heap_setCell xw ⟨gf,j*15+7,none⟩ _ w.heap.size (by show w.heap.size≠gf;omega)).trans (bk_step HX6.out hC')
        ·exact (HP6.out.step hC').kept (KeepS.of_setCell _ _ _ (fun h=>by have:gf<B:=h.2;omega))
        ·exact bl_set (bl_step HW6.out hC') ⟨gf,j*15+7,none⟩ _ (by show w.heap.size≤gf;omega)
        ·have:=hC'.size;simp [World.setCell];omega
        ·exact (Below.heap_setCell xw ⟨gf,j*15+7,none⟩ _ (w.heap.size+1) (by show w.heap.size+1≠gf;omega)).trans (bk_step HR6.out hC')
       simp only [ly];refine relWalkA_nil ?_;intro wz hD hG;clear hG;obtain ⟨hC7,hX7,hP7,hW7,hB7,hR7⟩:=hD;have HC7:=H_ hC7;clear hC7;go_wp2;go_roundw
       case rel=>exact ⟨k+1,_,_,_,_,_,_,_,_,by go_num,by omega,HKX.out _,hX7,HC7.out.at_,hP7,hW7,hB7,hR7⟩
       case measure=>simp [intOf];omega
     | false=>
      have hw1:(bits .and .i64 wh (wrap64 (2 ^ p)) != 0)=false:=HWBI.out.trans hwh;have hc1:=HCBI.out hwh;obtain ⟨i,x,hgi,hU,hxp,hn0⟩:=HUN.out k (Nat.le_refl _) hlt (by rw [←HPE.out];exact hwh);rw [←HPE.out] at hgi hxp hn0;obtain ⟨rfl,rfl⟩:ok=true∧m=(i:Int)+1:=by
       rcases HOK.out with ⟨_,hv⟩ | ⟨h1,i',x',h2,h3,_,_⟩
       ·omega
       ·exact ⟨h1,by omega⟩
      rw [HPT.out] at hn0;obtain ⟨zs,hzs⟩:∃zs:ByteArray,zs=⟨(List.replicate ct 0).toArray⟩:=⟨_,rfl⟩;have hzz:zs.size=ct:=by rw [hzs];simp [ByteArray.size]
      have hwr:=fun w'=>pwrite_w x.pg.data x.pg.valid x.pg.dirty at' zs w' hU.ok.pg (by rw [hzz];omega) (by rw [hzz];exact hn0);have HZS:=H_ hzs;have HZZ:=H_ hzz;obtain ⟨A2',cr1,ea,q5,q6⟩:=hC.frames.form;injection ea with ea1 ea2 ea3
      subst ea1 ea3;obtain ⟨bb,o,rfl,hbl,y0,y1,y2,y3,y4,y5,y6,y7,y8⟩:=FrA.cells hC.frames hU.fr;have hil:=(g_l hU.fr);have i2:(i:Int)<(C.frames.length:Int):=by omega
      have hl2:C.frames.length≤100:=HI.out.ok.frames.2;have HU:=H_ hU;have HXP:=H_ hxp;have hi0:=u8_info;clear hgi hU hxp hn0 hwh hzs hzz hi0 hC ea2
      go_upto_region 17 with (go_at_call 125;go_loud (refine CM (hprt' _) ?_);rintro e w4 ⟨rfl,rfl⟩)
      have HF5:=H_ (heap_at_new wc (oF x) wc.heap.size rfl);have HX5:=H_ (bk_alloc HX.out (oF x));have HR5:=H_ (bk_alloc HR.out (oF x));have HW5:=H_ (bl_alloc HW.out (oF x));have HC5:=H_ ((HC.out.weak (S':=fun z=>S1 z∧z<wc.heap.size) (fun z hz h=>⟨h,hz⟩)).step (bl_alloc (Below.refl wc.heap.size wc) (oF x)));have HP5:=H_ (HP.out.alloc (oF x));have hz5:wc.heap.size<(wc.alloc (oF x)).heap.size:=by simp
      generalize wc.alloc (oF x)=W5 at HF5 HX5 HR5 HW5 HC5 HP5 hz5;clear x0 x1 x2 x3 x4 x5 x6 y0 y1 y2 y3 y4 y5 y6 y7 y8 l0 HX HR HW HP HC;obtain ⟨f0,f1,f2,f3,f4,f5,f6,f7,f8⟩:=cs9 HF5.out;have hlf:=bk_lt HF5.out
      go_cut [] (fun wx=>wx.heap[wc.heap.size]?=some (.cells #[.int .i64 x.file,.int .i64 x.page,.string (writeG x.pg at' zs).data,.int .i64 (writeG x.pg at' zs).valid,.int .i64 (writeG x.pg at' zs).dirty,.int .i64 x.tenant,.int .i64 x.holds,.int .i64 x.reading,.int .i64 x.writing] 55 (0,0))∧wx.heap[w.heap.size]?=some (.cells #[.slice A1 m1 c1,.slice (some ⟨bb,o,none⟩) C.frames.length cr0,.slice A3 m3 c3,.slice A4 m4 c4,.slice A5 m5 c5,.slice A6 m6 c6,.slice A7 m7 c7] 30 (0,0))∧wx.heap[w.heap.size+1]?=some (oCZ)∧CkAt wx (fun z=>S1 z∧z<wc.heap.size) (.slice A1 m1 c1) (.slice (some ⟨bb,o,none⟩) C.frames.length cr0) (.slice A3 m3 c3) (.slice A4 m4 c4) (.slice A5 m5 c5) (.slice A6 m6 c6) (.slice A7 m7 c7) C∧LA IntR wx (fun z=>w.heap.size+1<z∧z<B) (.slice (some ⟨b8,o8,none⟩) cnt cap8) lst∧Below w.heap.size w wx∧wc.heap.size<wx.heap.size)
      case first=>
       refine wp_region_sk (S:=fun z=>W5.heap.size≤z) 145 11 (inL [0,1,2,3,4,5,6,7,8,10]) (fun wx=>wx.heap[wc.heap.size]?=some (.cells #[.int .i64 x.file,.int .i64 x.page,.string (writeG x.pg at' zs).data,.int .i64 (writeG x.pg at' zs).valid,.int .i64 (writeG x.pg at' zs).dirty,.int .i64 x.tenant,.int .i64 x.holds,.int .i64 x.reading,.int .i64 x.writing] 55 (0,0))∧wx.heap[w.heap.size]?=some (.cells #[.slice A1 m1 c1,.slice (some ⟨bb,o,none⟩) C.frames.length cr0,.slice A3 m3 c3,.slice A4 m4 c4,.slice A5 m5 c5,.slice A6 m6 c6,.slice A7 m7 c7] 30 (0,0))∧wx.heap[w.heap.size+1]?=some (oCZ)∧CkAt wx (fun z=>S1 z∧z<wc.heap.size) (.slice A1 m1 c1) (.slice (some ⟨bb,o,none⟩) C.frames.length cr0) (.slice A3 m3 c3) (.slice A4 m4 c4) (.slice A5 m5 c5) (.slice A6 m6 c6) (.slice A7 m7 c7) C∧LA IntR wx (fun z=>w.heap.size+1<z∧z<B) (.slice (some ⟨b8,o8,none⟩) cnt cap8) lst∧Below w.heap.size w wx∧wc.heap.size<wx.heap.size) [SK.eq (.pointer (some ⟨wc.heap.size,2,none⟩)),SK.eq (.agg #[.string x.pg.data,.int .i64 x.pg.valid,.int .i64 x.pg.dirty]),SK.eq (.int .i64 (at':Int)),SK.eq (.int .i64 (ct:Int)),SK.mk0 ct W5.heap.size,SK.eq (.string zs),SK.eq (.tuple #[pgV (writeG x.pg at' zs).data (writeG x.pg at' zs).valid (writeG x.pg at' zs).dirty,.int .i64 0]),SK.eq (.tuple #[pgV (writeG x.pg at' zs).data (writeG x.pg at' zs).valid (writeG x.pg at' zs).dirty,.int .i64 0]),SK.eq (pgV (writeG x.pg at' zs).data (writeG x.pg at' zs).valid (writeG x.pg at' zs).dirty),SK.eq (.int .i64 0),SK.eq (.pointer (some ⟨wc.heap.size,2,none⟩)),SK.any] (by kernel_rfl) (by kernel_rfl) rfl (fun _=>trivial) ?_;refine rP rfl rfl (fun xw hC hd K hK=>?_) (fun v0=>?_)
       ·go_simp;exact hK _ _ hC K_ rfl
       simp only [ly];refine rP rfl rfl (fun xw hC hd K hK=>?_) (fun v1=>?_)
       ·obtain rfl:v0=_:=hd 0 (by kernel_rfl);have hC':Below W5.heap.size W5 xw:=hC;have u0:=(hC'.cell (p:=⟨wc.heap.size,_,none⟩) hlf).trans f2;have u1:=(hC'.cell (p:=⟨wc.heap.size,_,none⟩) hlf).trans f3;have u2:=(hC'.cell (p:=⟨wc.heap.size,_,none⟩) hlf).trans f4;go_simp;exact hK _ _ hC K_ rfl
       simp only [ly];refine rP rfl rfl (fun xw hC hd K hK=>?_) (fun v2=>?_)
       ·go_simp;exact hK _ _ hC K_ rfl
       simp only [ly];refine rP rfl rfl (fun xw hC hd K hK=>?_) (fun v3=>?_)
       ·go_simp;exact hK _ _ hC K_ rfl
       simp only [ly];refine rP rfl rfl (fun xw hC hd K hK=>?_) (fun v4=>?_)
       ·obtain rfl:v3=_:=hd 3 (by kernel_rfl);obtain ⟨i0,hi,hy0,hy1,hy2⟩:=info_parts u8_info;have hC':Below W5.heap.size W5 xw:=hC;refine wp_of_list (ops:=#[]) rfl (wpList_make_full xw rfl (.tmp 133) (.tmp 133) 141 rfl xw.heap.size 5 i0 (.int .u8 0) 1 Tryz.underlying141 hi hy0 hy1 .i64 .i64 ct ct ct rfl rfl rfl rfl (by rw [hy2];omega) (by unfold maxLen;omega) (Nat.le_refl _) ?_);intro w4 hown4 hg4;have hb4:=(Below.refl xw.heap.size xw).grown hg4 (Nat.le_refl _) (fun b hb=>by cases hb);exact hK _ _ (bl_step hC' hb4) (KeepS.of_below hb4) ⟨xw.heap.size,rfl,hC'.size,(hown4.lt _ rfl).2,w4,_,hown4,rfl⟩
       simp only [ly];refine rP rfl rfl (fun xw hC hd K hK=>?_) (fun v5=>?_)
       ·obtain ⟨g9,e9,_,_,w9,base9,hown9,hk9⟩:=hd 4 (by kernel_rfl);obtain rfl:v4=_:=e9;have hcv:=conv_zero hown9 xw hk9;rw [←HZS.out] at hcv;go_simp;exact hK _ _ hC K_ rfl
       simp only [ly];refine rP rfl rfl (fun xw hC hd K hK=>?_) (fun v6=>?_)
       ·obtain rfl:v1=_:=hd 1 (by kernel_rfl);obtain rfl:v2=_:=hd 2 (by kernel_rfl);obtain rfl:v5=_:=hd 5 (by kernel_rfl);have hC':Below W5.heap.size W5 xw:=hC;go_simp
        go_at_call 127
        refine (hwr xw).mono ?_;rintro e w1 ⟨rfl,hb⟩;exact hK _ _ (bl_step hC' hb) (KeepS.of_below hb) rfl
       simp only [ly];refine rP rfl rfl (fun xw hC hd K hK=>?_) (fun v7=>?_)
       ·obtain e:=hd 6 (by kernel_rfl);obtain rfl:v6=_:=e;go_simp;exact hK _ _ hC K_ rfl
       simp only [ly];refine rP rfl rfl (fun xw hC hd K hK=>?_) (fun v8=>?_)
       ·obtain e:=hd 7 (by kernel_rfl);obtain rfl:v7=_:=e;go_simp;exact hK _ _ hC K_ rfl
       simp only [ly];refine rA rfl (fun w=>KeepS.refl w) (fun xw hd K hK=>?_) (fun v9=>?_)
       ·obtain e:=hd 7 (by kernel_rfl);obtain rfl:v7=_:=e;go_simp;exact hK _ rfl
       simp only [ly];refine rP rfl rfl (fun xw hC hd K hK=>?_) (fun v10=>?_)
       ·go_simp;exact hK _ _ hC K_ rfl
       simp only [ly];refine rS (fun xw hC hd K hK=>?_) (fun v11=>?_)
       ·obtain rfl:v10=_:=hd 10 (by kernel_rfl);obtain e:=hd 8 (by kernel_rfl);obtain rfl:v8=_:=e;have hC':Below W5.heap.size W5 xw:=hC;have HF6:=bk_step HF5.out hC';have hth:=there_pg HF6;refine wp_of_list (ops:=#[]) rfl (wpList_store_mid rfl 53 (.tmp 139) (.tmp 137) rfl wc.heap.size 2 #[.string (writeG x.pg at' zs).data,.int .i64 (writeG x.pg at' zs).valid,.int .i64 (writeG x.pg at' zs).dirty] rfl rfl hth pg_size (pg_one _ _ _) ?_);refine hK undef _ ⟨fr_setPg HF6,?_,?_,?_,?_,?_,?_⟩ (KeepS.of_setCells _ _ _ _ (fun h=>by have:W5.heap.size≤wc.heap.size:=h;omega)) trivial
        ·exact (heap_setCells wc.heap.size _ 2 xw w.heap.size (by omega)).trans (bk_step HX5.out hC')
        ·exact (heap_setCells wc.heap.size _ 2 xw (w.heap.size+1) (by omega)).trans (bk_step HR5.out hC')
        ·exact (HC5.out.step hC').kept (KeepS.of_setCells _ _ _ _ (fun h=>absurd h.2 (Nat.lt_irrefl _)))
        ·exact (HP5.out.step hC').kept (KeepS.of_setCells _ _ _ _ (fun h=>by have:=h.2;omega))
        ·exact bl_setCells (bl_step HW5.out hC') (by omega) _ _
        ·rw [setCells_size];exact Nat.lt_of_lt_of_le hz5 hC'.size
       simp only [ly];refine relWalkA_nil ?_;intro wz hD hG;clear hG;go_wp2;go_meet
       case rel=>exact hD
      case rest=>
       clear f0 f1 f2 f3 f4 f5 f6 f7 f8 HF5 HX5 HR5 HW5 HC5 HP5 hz5 hlf;obtain ⟨hF6,hX6,hR6,hC6,hP6,hW6,hz6⟩:=hcut;have HX6:=H_ hX6;have HR6:=H_ hR6;have HC6:=H_ hC6;have HP6:=H_ hP6;have HW6:=H_ hW6;obtain ⟨x0,x1,x2,x3,x4,x5,x6⟩:=cs7 hX6;obtain ⟨f0,f1,f2,f3,f4,f5,f6,f7,f8⟩:=cs9 hF6;have hxk:FrOk ⟨x.file,x.page,writeG x.pg at' zs,x.tenant,x.holds,x.reading,x.writing⟩:=⟨HU.out.ok.page,HU.out.ok.tenant,writeG_ok HU.out.ok.pg (by rw [HZZ.out];omega),HU.out.ok.holds,HU.out.ok.reading,HU.out.ok.writing⟩;have HKEEP:=H_ (show ClrS F G Z off cn sz j cnt (k+1) (putC C i j y ⟨x.file,x.page,writeG x.pg at' zs,x.tenant,x.holds,x.reading,x.writing⟩) from by
        have hIp:=HI.out.put HU.out hxk rfl rfl rfl rfl (HI.out.file j y HJ.out) C.ptes HI.out.pok;obtain ⟨j0,y0,hu0,hv⟩:=HI.out.used HU.out.fr (by rw [HU.out.ix];omega);obtain ⟨_,rfl,rfl⟩:=HU.out.eq hu0;obtain ⟨hi,hcc⟩:=getR_pos (c:=y0.c) (p:=x.page) (by rw [hv];omega);refine ClrS.keep HUN.out HU.out.fr (HXP.out.trans (by rw [HPE.out])) hIp (get_self HJ.out) (fun i' hi' u hu=>get_set hi' hu) (fun q hq=>?_);exact getR_markC hi hcc _ _ q)
       have hput:=put_w40 C i j ⟨x.file,x.page,writeG x.pg at' zs,x.tenant,x.holds,x.reading,x.writing⟩ y _ _ _ _ _ _ _ S1 _ (HC6.out.weak (fun z _ h=>h.1)) HI.out.ok hil HU.out.fl HU.out.ix (fun z hz=>s2 z (by omega));clear hX6 hR6 hC6 hP6 hW6 hF6 hxk
       go_wp2_with (first
        | (go_at_call 90;go_loud (with_reducible refine CM hput ?_);rintro e w7 ⟨gf,nf,cf,gr,nr,cr,c',d',gl,nl,cl,gk,nk,ck,g',rfl,hc7,hb7⟩;obtain ⟨P3,n3,r3,rfl⟩:=hc7.zones.cap;obtain ⟨P4,n4,r4,rfl⟩:=hc7.groups.cap;obtain ⟨P7,n7,r7,rfl⟩:=hc7.ptes.cap;have HC7:=H_ hc7;have HB7:=H_ hb7;have HX8:=bkh HX6 hb7;clear hc7 hb7)
        | (refine st_ck rfl (.tmp 4) (.tmp 143) rfl rfl (w.heap.size) rfl rfl HX8.out rfl ?_))
       go_roundw
       case rel=>
        exact ⟨k+1,putC C i j y ⟨x.file,x.page,writeG x.pg at' zs,x.tenant,x.holds,x.reading,x.writing⟩,_,_,_,_,_,_,_,by go_num,by omega,HKEEP.out,setRow_heap _ _ _ _ _ _ HX8.out,HC7.out.at_.kept (KeepS.of_setRow _ _ _ (fun hz=>(s1 _ hz).2.1 rfl)),(HP6.out.step HB7.out).kept (KeepS.of_setRow _ _ _ (fun hz=>by have:=hz.1;omega)),bl_setRow (bl_step HW6.out HB7.out) (Nat.le_refl _) _,by have:=HB7.out.size;simp [World.setRow];omega,(setRow_other _ _ _ _ (by omega)).trans (bk_step HR6.out HB7.out)⟩
       case measure=>simp [intOf];omega
   ·obtain rfl:k=cnt:=by omega
    go_wp2_with (refine st_ck rfl (.tmp 8) (.tmp 144) rfl rfl (w.heap.size+1) rfl rfl HR.out rfl ?_)
    show bodyPost Tryz.prog Tryz.f99 _ _ _ _
    refine bodyPost_ret (ck_res rfl _ _ (w.heap.size+1) _ _ _ _ _ _ _ _ _ rfl (setRow_heap _ _ _ _ _ _ HR.out)) rfl ?_;exact ⟨C,_,_,_,_,_,_,_,HI.out,rfl,(HC.out.kept (KeepS.of_setRow _ _ _ (fun hz=>(s1 _ hz).2.2 rfl))).weak (fun z _ hz=>(s1 z hz).1),bl_setRow HW.out (by omega) _⟩
end
end Go.Proofs.YthhekebemmckcaaGreatDoor
